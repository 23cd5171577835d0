/- The document's credentials (callboxref11): whether they may be, and how they are laid down. -/
import Derived.Test.YtcooijhndiainaaGreatDoorR3
import Derived.Test.YtcooijhndiainaaGreatDoorCm
import Derived.Test.YtcooijhndiainaaGreatDoorPw
namespace Go.Proofs.YtcooijhndiainaaGreatDoor
open Go.RowKit

theorem word11_any (n : Int) (w : World) : Calls Tryz.prog 90 #[.int .i64 n] w fun r w' => r = .returned (.bool (isWordB n)) ∧ w = w' := by
  by_cases h : 0 ≤ n
  · by_cases h2 : n ≤ 4294967295
    · rw [isWordB_of ⟨h, h2⟩]
      go_enter Tryz.func90, Tryz.ntmps90
      go_wp2
      go_ret
      exact ⟨rfl, rfl⟩
    · rw [isWordB_no (fun h => h2 h.2)]
      go_enter Tryz.func90, Tryz.ntmps90
      go_wp2
      go_ret
      exact ⟨rfl, rfl⟩
  · rw [isWordB_no (fun h2 => h h2.1)]
    go_enter Tryz.func90, Tryz.ntmps90
    go_wp2
    go_ret
    exact ⟨rfl, rfl⟩

set_option maxRecDepth 100000 in
set_option maxHeartbeats 2000000 in
theorem SysMay_any (s : SysM) (A : Option Addr) (c : Nat) (w : World) (hA : IntsAt w A s.groups) :
    Calls Tryz.prog 48 #[.agg #[.int .i64 s.stamp, .string s.machine, .int .i64 s.user, .int .i64 s.group, .slice A s.groups.length c]] w fun r w' => r = .returned (.bool (namedB s)) ∧ Fr (fun _ => False) w w' := by
  have HA := Lib.hid hA
  clear hA
  have key : namedB s = (isWordB s.stamp && isWordB s.user && isWordB s.group && decide ((s.machine.size : Int) ≤ 255) && decide ((s.groups.length : Int) ≤ 16) && s.groups.all isWordB) := rfl
  generalize h1 : isWordB s.stamp = b1 at key
  generalize h2 : isWordB s.user = b2 at key
  generalize h3 : isWordB s.group = b3 at key
  have KEY := Lib.hid key
  have C1 := fun w => Lib.hid (h1 ▸ word11_any s.stamp w)
  have C2 := fun w => Lib.hid (h2 ▸ word11_any s.user w)
  have C3 := fun w => Lib.hid (h3 ▸ word11_any s.group w)
  clear key h1 h2 h3
  by_cases hk : (b1 && b2 && b3 && decide ((s.machine.size : Int) ≤ 255) && decide ((s.groups.length : Int) ≤ 16)) = true
  · have e : namedB s = s.groups.all isWordB := by rw [KEY.out, hk]; simp
    rw [e]
    simp only [Bool.and_eq_true, decide_eq_true_eq] at hk
    obtain ⟨⟨⟨⟨rfl, rfl⟩, rfl⟩, h4⟩, h5⟩ := hk
    clear KEY e
    go_enter Tryz.func48, Tryz.ntmps48
    go_wp2_with fail
    refine (C1 _).out.mono ?_
    rintro e w' ⟨rfl, rfl⟩
    go_wp2_with fail
    refine (C2 _).out.mono ?_
    rintro e w' ⟨rfl, rfl⟩
    go_wp2_with fail
    refine (C3 _).out.mono ?_
    rintro e w' ⟨rfl, rfl⟩
    go_wp2_with fail
    go_loop [6, 7] (fun i _ => ∃ k : Nat, k ≤ s.groups.length ∧ i = .int .i64 k ∧ Hid (∀ j, j < k → isWordB (s.groups.getD j 0) = true)) (fun i _ => s.groups.length - (intOf i).toNat)
    case atStart => exact ⟨0, Nat.zero_le _, rfl, Lib.hid (fun j hj => by omega)⟩
    case round =>
      obtain ⟨k, hk, rfl, hw⟩ := hrel
      by_cases hlt : k < s.groups.length
      · rcases HA.out with h0 | ⟨b, off, rfl, hb, hc⟩
        · rw [h0] at hlt; simp at hlt
        have hcell := hc k hlt
        clear hc
        generalize hx : s.groups.getD k 0 = x at hcell
        have HX := Lib.hid hx
        clear hx
        by_cases hi : isWordB x = true
        · have hw' : Hid (∀ j, j < k + 1 → isWordB (s.groups.getD j 0) = true) := Lib.hid (fun j hj => by
            by_cases h : j < k
            · exact hw.out j h
            · obtain rfl : j = k := by omega
              rw [HX.out]; exact hi)
          go_wp2_with (go_at_call 90; refine (word11_any _ _).mono ?_; rintro e w' ⟨rfl, rfl⟩)
          exact ⟨⟨k + 1, by omega, by go_num, hw'⟩, by simp [intOf]; omega⟩
        · rw [Bool.not_eq_true] at hi
          go_wp2_with (go_at_call 90; refine (word11_any _ _).mono ?_; rintro e w' ⟨rfl, rfl⟩)
          go_ret
          rw [not_all_getD s.groups 0 isWordB k hlt (by rw [HX.out]; exact hi)]
          exact ⟨rfl, (Fr.refl _ _).alloc _⟩
      · go_wp2
        go_ret
        rw [all_getD s.groups 0 isWordB (fun j hj => hw.out j (by omega))]
        exact ⟨rfl, (Fr.refl _ _).alloc _⟩
  · have e : namedB s = false := by rw [KEY.out]; rw [Bool.not_eq_true] at hk; rw [hk]; rfl
    rw [e]
    clear KEY e
    cases b1 with
    | false =>
      clear hk
      go_enter Tryz.func48, Tryz.ntmps48
      go_wp2_with fail
      refine (C1 _).out.mono ?_
      rintro e w' ⟨rfl, rfl⟩
      go_wp2_with fail
      refine (C2 _).out.mono ?_
      rintro e w' ⟨rfl, rfl⟩
      go_wp2_with fail
      refine (C3 _).out.mono ?_
      rintro e w' ⟨rfl, rfl⟩
      go_wp2_with fail
      go_ret
      exact ⟨rfl, (Fr.refl _ _).alloc _⟩
    | true =>
    cases b2 with
    | false =>
      clear hk
      go_enter Tryz.func48, Tryz.ntmps48
      go_wp2_with fail
      refine (C1 _).out.mono ?_
      rintro e w' ⟨rfl, rfl⟩
      go_wp2_with fail
      refine (C2 _).out.mono ?_
      rintro e w' ⟨rfl, rfl⟩
      go_wp2_with fail
      refine (C3 _).out.mono ?_
      rintro e w' ⟨rfl, rfl⟩
      go_wp2_with fail
      go_ret
      exact ⟨rfl, (Fr.refl _ _).alloc _⟩
    | true =>
    cases b3 with
    | false =>
      clear hk
      go_enter Tryz.func48, Tryz.ntmps48
      go_wp2_with fail
      refine (C1 _).out.mono ?_
      rintro e w' ⟨rfl, rfl⟩
      go_wp2_with fail
      refine (C2 _).out.mono ?_
      rintro e w' ⟨rfl, rfl⟩
      go_wp2_with fail
      refine (C3 _).out.mono ?_
      rintro e w' ⟨rfl, rfl⟩
      go_wp2_with fail
      go_ret
      exact ⟨rfl, (Fr.refl _ _).alloc _⟩
    | true =>
      have hk' : ¬ ((s.machine.size : Int) ≤ 255 ∧ (s.groups.length : Int) ≤ 16) := by
        intro h
        exact hk (by simp [h.1, h.2])
      by_cases h4 : (s.machine.size : Int) ≤ 255
      · have h5 : (16 : Int) < s.groups.length := by omega
        clear hk hk'
        go_enter Tryz.func48, Tryz.ntmps48
        go_wp2_with fail
        refine (C1 _).out.mono ?_
        rintro e w' ⟨rfl, rfl⟩
        go_wp2_with fail
        refine (C2 _).out.mono ?_
        rintro e w' ⟨rfl, rfl⟩
        go_wp2_with fail
        refine (C3 _).out.mono ?_
        rintro e w' ⟨rfl, rfl⟩
        go_wp2_with fail
        go_ret
        exact ⟨rfl, (Fr.refl _ _).alloc _⟩
      · have h4 := Int.not_le.1 h4
        clear hk hk'
        go_enter Tryz.func48, Tryz.ntmps48
        go_wp2_with fail
        refine (C1 _).out.mono ?_
        rintro e w' ⟨rfl, rfl⟩
        go_wp2_with fail
        refine (C2 _).out.mono ?_
        rintro e w' ⟨rfl, rfl⟩
        go_wp2_with fail
        refine (C3 _).out.mono ?_
        rintro e w' ⟨rfl, rfl⟩
        go_wp2_with fail
        go_ret
        exact ⟨rfl, (Fr.refl _ _).alloc _⟩

set_option maxRecDepth 100000 in
set_option maxHeartbeats 2000000 in
theorem MarkMay_any (m : MarkM) (A : Option Addr) (c : Nat) (w : World) (hA : IntsAt w A m.sys.groups) :
    Calls Tryz.prog 53 #[.agg #[.int .i64 m.inst, .int .i64 m.seq, .int .i64 m.water, .int .i64 m.sys.stamp, .string m.sys.machine, .int .i64 m.sys.user, .int .i64 m.sys.group, .slice A m.sys.groups.length c]] w fun r w' => r = .returned (.bool (mayB m)) ∧ Fr (fun _ => False) w w' := by
  have hA1 := hA.fr ((Fr.refl (fun _ => False) w).alloc (.cells #[.int .i64 m.inst, .int .i64 m.seq, .int .i64 m.water, .int .i64 m.sys.stamp, .string m.sys.machine, .int .i64 m.sys.user, .int .i64 m.sys.group, .slice A m.sys.groups.length c] 26)) (fun _ _ h => h)
  have HA := Lib.hid hA1
  have hx := Lib.hid (heap_alloc_new w (.cells #[.int .i64 m.inst, .int .i64 m.seq, .int .i64 m.water, .int .i64 m.sys.stamp, .string m.sys.machine, .int .i64 m.sys.user, .int .i64 m.sys.group, .slice A m.sys.groups.length c] 26))
  clear hA hA1
  have key : mayB m = (decide (1 ≤ m.inst) && decide (m.inst ≤ 4611686018427387904) && (decide (1 ≤ m.seq) && decide (m.seq ≤ 4294967295)) && (decide (1 ≤ m.water) && decide (m.water ≤ 4294967295)) && namedB m.sys) := rfl
  generalize hn : namedB m.sys = nb at key
  have HC := fun w (h : IntsAt w A m.sys.groups) => Lib.hid (hn ▸ SysMay_any m.sys A c w h)
  have KEY := Lib.hid key
  clear key hn
  go_enter Tryz.func53, Tryz.ntmps53
  go_wp2_with fail
  refine (HC _ HA.out).out.mono ?_
  rintro e w1 ⟨rfl, hf1⟩
  have hx := hidMove hx hf1 id
  obtain ⟨c0, c1, c2, c3, c4, c5, c6, c7⟩ := box8 hx
  have hf : Fr (fun _ => False) w w1 := ((Fr.refl _ _).alloc _).then hf1 (fun _ _ h => h)
  clear hf1 HC HA
  have fin : ∀ x : Bool, (x = (decide (1 ≤ m.inst) && decide (m.inst ≤ 4611686018427387904) && (decide (1 ≤ m.seq) && decide (m.seq ≤ 4294967295)) && (decide (1 ≤ m.water) && decide (m.water ≤ 4294967295)) && nb)) → Ending.returned (.bool x) = .returned (.bool (mayB m)) := fun x h => by rw [KEY.out, h]
  have FIN := Lib.hid fin
  clear fin KEY
  cases nb with
  | false =>
    go_wp2
    go_ret
    exact ⟨FIN.out _ (by simp), hf⟩
  | true =>
    by_cases h1 : 1 ≤ m.inst
    case neg =>
      go_wp2
      go_ret
      exact ⟨FIN.out _ (by simp; intros; omega), hf⟩
    by_cases h2 : m.inst ≤ 4611686018427387904
    case neg =>
      go_wp2
      go_ret
      exact ⟨FIN.out _ (by simp; intros; omega), hf⟩
    by_cases h3 : 1 ≤ m.seq
    case neg =>
      go_wp2
      go_ret
      exact ⟨FIN.out _ (by simp; intros; omega), hf⟩
    by_cases h4 : m.seq ≤ 4294967295
    case neg =>
      go_wp2
      go_ret
      exact ⟨FIN.out _ (by simp; intros; omega), hf⟩
    by_cases h5 : 1 ≤ m.water
    case neg =>
      go_wp2
      go_ret
      exact ⟨FIN.out _ (by simp; intros; omega), hf⟩
    by_cases h6 : m.water ≤ 4294967295
    case neg =>
      go_wp2
      go_ret
      exact ⟨FIN.out _ (by rw [show decide (m.water ≤ 4294967295) = false from decide_eq_false (by omega)]; simp), hf⟩
    go_wp2
    go_ret
    exact ⟨FIN.out _ (by simp [h1, h2, h3, h4, h5, h6]), hf⟩

theorem uints_succ' (st : WSt) (l : List Int) (k : Nat) (h : k < l.length) : st.uints (l.take (k + 1)) = (st.uints (l.take k)).uint (l.getD k 0) := uints_succ st l k h

/-- the document's Writer, and a sys beside it in a box. -/
structure RSy (w0 : World) (b : Nat) (s : SysM) (A : Option Addr) (c : Nat) (w : World) (st : WSt) : Prop where
  wr : RWr w b st
  fr : Fr (fun k => k = b) w0 w
  ints : IntsAt w A s.groups
  box : w.heap[w0.heap.size]? = some (.cells #[.int .i64 s.stamp, .string s.machine, .int .i64 s.user, .int .i64 s.group, .slice A s.groups.length c] 24 (0, 0))
  lt : b < w0.heap.size
  apart : ∀ a, A = some a → a.block ≠ b
theorem RSy.step {w0 w w' : World} {b : Nat} {s : SysM} {A : Option Addr} {c : Nat} {st st' : WSt} (h : RSy w0 b s A c w st) (hf : Fr (fun k => k = b) w w') (hw : RWr w' b st') : RSy w0 b s A c w' st' :=
  ⟨hw, h.fr.trans hf, h.ints.fr hf h.apart, (hf.block _ (lt_of_block h.box) (by have := h.lt; omega)).trans h.box, h.lt, h.apart⟩

set_option maxRecDepth 100000 in
set_option maxHeartbeats 4000000 in
theorem rsys_any {b : Nat} {st : WSt} (s : SysM) (A : Option Addr) (c : Nat) (w : World) (h : RWr w b st) (hA : IntsAt w A s.groups) (hd : ∀ a, A = some a → a.block ≠ b) (hm : s.machine.size ≤ 1099511627776) (hg : s.groups.length ≤ 1099511627776) :
    Calls Tryz.prog 50 #[.pointer (some ⟨b, 0, none⟩), .agg #[.int .i64 s.stamp, .string s.machine, .int .i64 s.user, .int .i64 s.group, .slice A s.groups.length c]] w fun r w' => r = .returned (.tuple #[]) ∧ Fr (fun k => k = b) w w' ∧ RWr w' b (st.sys s) := by
  have hal := (Fr.refl (fun _ => False) w).alloc (.cells #[.int .i64 s.stamp, .string s.machine, .int .i64 s.user, .int .i64 s.group, .slice A s.groups.length c] 24)
  have hy : RSy w b s A c (w.alloc (.cells #[.int .i64 s.stamp, .string s.machine, .int .i64 s.user, .int .i64 s.group, .slice A s.groups.length c] 24)) st :=
    ⟨h.fr hal id, (Fr.refl _ _).alloc _, hA.fr hal (fun _ _ h => h), heap_alloc_new w _, h.lt, hd⟩
  have HY := Lib.hid hy
  clear hy hal hA hd h
  unfold WSt.sys
  go_enter Tryz.func50, Tryz.ntmps50
  go_wp2_with (first | (go_at_call 73; refine (rUint_any _ _ HY.out.wr).mono ?_; rintro e w2 ⟨rfl, hf2, h2⟩; have HY := Lib.hid (HY.out.step hf2 h2); clear hf2 h2; have hc := box5 (Lib.hid HY.out.box); obtain ⟨hc0, hc1, hc2, hc3, hc4⟩ := hc) | (go_at_call 91; refine (rOpaque_any _ _ _ HY.out.wr hm).mono ?_; rintro e w2 ⟨rfl, hf2, h2⟩; have HY := Lib.hid (HY.out.step hf2 h2); clear hf2 h2; have hc := box5 (Lib.hid HY.out.box); obtain ⟨hc0, hc1, hc2, hc3, hc4⟩ := hc) | (go_at_call 92; refine (rCount_any _ _ _ HY.out.wr).mono ?_; rintro e w2 ⟨rfl, hf2, h2⟩; have HY := Lib.hid (HY.out.step hf2 h2); clear hf2 h2; have hc := box5 (Lib.hid HY.out.box); obtain ⟨hc0, hc1, hc2, hc3, hc4⟩ := hc))
  clear hc0 hc1 hc2 hc3 hc4
  go_loopw [4] (fun i wr => ∃ k : Nat, k ≤ s.groups.length ∧ i = .int .i64 k ∧ Hid (RSy w b s A c wr ((((((st.uint s.stamp).opq 255 s.machine).uint s.user).uint s.group).count 16 s.groups.length).uints (s.groups.take k)))) (fun i _ => s.groups.length - (intOf i).toNat)
  case atStart => exact ⟨0, Nat.zero_le _, rfl, HY⟩
  case round => as_aux_lemma =>
    obtain ⟨k, hkk, rfl, hwk⟩ := hrel
    clear HY
    obtain ⟨c0, c1, c2, c3, c4⟩ := box5 (Lib.hid hwk.out.box)
    clear c0 c1 c2 c3
    by_cases hlt : k < s.groups.length
    · rcases hwk.out.ints with h0 | ⟨gb, off, rfl, hb, hc⟩
      · rw [h0] at hlt; simp at hlt
      have hcell := hc k hlt
      clear hc
      have hs := uints_succ (((((st.uint s.stamp).opq 255 s.machine).uint s.user).uint s.group).count 16 s.groups.length) s.groups k hlt
      generalize hx2 : s.groups.getD k 0 = x at hcell hs
      have HX := Lib.hid hx2
      have HS := Lib.hid hs
      clear hx2 hs
      go_wp2_with (go_at_call 73; refine (rUint_any _ _ hwk.out.wr).mono ?_; rintro e w6 ⟨rfl, hf6, h6⟩)
      exact ⟨⟨k + 1, by omega, by go_num, Lib.hid (by rw [HS.out]; exact hwk.out.step hf6 h6)⟩, by simp [intOf]; omega⟩
    · have hk2 : s.groups.take k = s.groups := List.take_of_length_le (by omega)
      rw [hk2] at hwk
      clear hk2
      go_wp2
      go_end0
      exact ⟨rfl, hwk.out.fr, hwk.out.wr⟩
end Go.Proofs.YtcooijhndiainaaGreatDoor
