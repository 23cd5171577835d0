/- callboxlaw17.awake: the chapter's first example tells true. -/
import Derived.Test.YtlcjfafmmoncpaaGreatDoorEs
import Derived.Laws.Pointers
namespace Go.Proofs.YtlcjfafmmoncpaaGreatDoor
open Go.RowKit
set_option linter.unusedVariables false
set_option linter.unusedSimpArgs false

/-- what is left at the end. -/
theorem AwI.done {w0 w : World} {b : Nat} {r : CallR} {gl : Nat} {cur : Array Value} (h : AwI w0 b 22 r gl cur w) :
    Calls Tryz.prog 39 #[.pointer (some ⟨b, 0, none⟩)] w fun e w' => ∃ go cu, e = .returned (.slice (some ⟨go, 0, none⟩) 1 1) ∧ w'.heap[go]? = some (.cells cu 80 (0, 0)) ∧ cu.toList.take 9 = [.int .i64 9, .int .i64 2, .int .i64 0, .int .i64 0, .int .i64 0, .int .i64 0, .int .i64 0, .string ByteArray.empty, .int .i64 22] ∧
      (∃ S, Cli w' b S ∧ S.next = 10 ∧ S.now = 22 ∧ S.calls = []) ∧ Fr (fun _ => False) w0 w' ∧ w'.heap[gl]? = some (.cells cur 78 (0, 0)) := by
  obtain ⟨S, hc, hcfg, hnx, hnow, _, hl, hlo⟩ := h.st
  obtain ⟨hcalls, houts⟩ := hl (Nat.le_refl _)
  refine (Done_any hc).mono ?_
  rintro e w' ⟨A, rfl, hc2, hrow, _, hf⟩
  rw [houts] at hrow ⊢
  rcases hrow with ⟨_, h0⟩ | ⟨go, cu, rfl, h1, h2, h3, h4⟩
  · cases h0
  refine ⟨go, cu, rfl, h2, h4, ⟨_, hc2, hnx, hnow, hcalls⟩, h.fr.then hf (fun i hi e => ?_), (hf.block _ (lt_of_block h.row) ?_).trans h.row⟩
  · have := hlo b (.inl rfl)
    omega
  · intro e
    have := h.row
    rw [e, hc.box] at this
    simp at this
theorem take_cell {cu : Array Value} {n : Nat} {l : List Value} (h : cu.toList.take n = l) {j : Nat} (hj : j < l.length) : cu[j]? = some l[j] := by
  have h1 : (cu.toList.take n)[j]? = some l[j] := by rw [h]; exact List.getElem?_eq_getElem hj
  rw [List.getElem?_take] at h1
  split at h1
  · simpa using h1
  · cases h1

set_option maxRecDepth 100000 in
set_option maxHeartbeats 4000000 in
theorem awake17_any (w : World) (hg : ErrT w) : Calls Tryz.prog 9 #[] w fun r w' => r = .returned (.bool true) ∧ Fr (fun _ => False) w w' := by
  have HG := Lib.hid hg
  clear hg
  go_enter Tryz.func9, Tryz.ntmps9
  go_wp2_with fail
  refine (config_any _).mono ?_
  rintro e w1 ⟨rfl, hf1⟩
  have HF1 := Lib.hid hf1
  clear hf1
  unfold cfgCells cfg0
  go_wp2_with fail
  refine (new0 w w1 HF1.out (HG.out.fr HF1.out id)).mono ?_
  rintro e w2 ⟨b, rfl, S1, hA1, hn1, hc1⟩
  have HA1 := Lib.hid hA1
  have HN1 := Lib.hid (And.intro hn1 hc1)
  clear hA1 hn1 hc1 HF1
  go_wp2_with fail
  refine (newZ w2 (HG.out.fr HA1.out.fr id)).mono ?_
  rintro e w3 ⟨rfl, hf3⟩
  have HA3 := Lib.hid (HA1.out.grown hf3)
  clear hf3 HA1
  go_wp2_with fail
  refine (call0 HA3.out HN1.out.1 HN1.out.2).mono ?_
  rintro e w4 ⟨rfl, S4, r4, hA4, hn4, hc4, hN4, r0, r1, r2, r3, r5⟩
  have HA4 := Lib.hid hA4
  have HC4 := Lib.hid (And.intro hn4 (And.intro hc4 (And.intro hN4 (And.intro r0 (And.intro r1 (And.intro r2 (And.intro r3 r5)))))))
  clear hA4 hn4 hc4 hN4 r0 r1 r2 r3 r5 HA3 HN1
  go_wp2_with fail
  refine (due_0 HA4.out (HG.out.fr HA4.out.fr id) HC4.out.2.1 HC4.out.2.2.1 HC4.out.2.2.2.2.1 HC4.out.2.2.2.2.2.1 HC4.out.2.2.2.2.2.2.1 HC4.out.2.2.2.2.2.2.2).mono ?_
  rintro e w5 ⟨gl, cur, pk, rfl, hgl, htk, S5, r6, hA5, hn5, hc5, hN5, q0, q1, q2⟩
  have HA5 := Lib.hid hA5
  have HR5 := Lib.hid (And.intro hgl htk)
  have HC5 := Lib.hid (And.intro (hn5.trans HC4.out.1) (And.intro hc5 (And.intro hN5 (And.intro (q0.trans HC4.out.2.2.2.1) (And.intro q1 q2)))))
  clear hgl htk hA5 hn5 hc5 hN5 q0 q1 q2 HA4 HC4
  go_wp2_with fail
  refine (due_1 HA5.out (HG.out.fr HA5.out.fr id) HC5.out.2.1 HC5.out.2.2.1 HC5.out.2.2.2.2.1 HC5.out.2.2.2.2.2).mono ?_
  rintro e w6 ⟨A6, rfl, hA6, hst⟩
  have HI : Hid (AwI w b 0 r6 gl cur w6) := Lib.hid ⟨⟨S5, hA6.cli, hA6.cfg, HC5.out.1, hA6.now, fun _ => ⟨HC5.out.2.1, hA6.outs⟩, fun h => by omega, hA6.lo⟩, hA6.fr, (hst gl (fun r' hr' e => by
    have h1 := (HA5.out.cli.rest.each r' hr').box
    rw [← e, HR5.out.1] at h1
    simp at h1) (lt_of_block HR5.out.1)).trans HR5.out.1⟩
  have HTK := Lib.hid HR5.out.2
  have HCN := Lib.hid (And.intro HC5.out.2.2.1 (And.intro HC5.out.2.2.2.1 HC5.out.2.2.2.2.1))
  clear hA6 hst HA5 HR5 HC5
  go_wp2_with fail
  go_loopw [9] (fun i wr => ∃ k : Nat, k ≤ 22 ∧ i = .int .i64 k ∧ Hid (AwI w b k r6 gl cur wr)) (fun i _ => 22 - (intOf i).toNat)
  case atStart => exact ⟨0, by omega, rfl, HI⟩
  case round =>
    obtain ⟨k, hk, rfl, hI⟩ := hrel
    clear HI
    by_cases hlt : k < 22
    · have HT := Lib.hid (hI.out.tick hlt HCN.out.2.1 HCN.out.2.2 HCN.out.1)
      go_wp2_with (go_at_call 38; refine HT.out.mono ?_; rintro e w7 ⟨rfl, hI7⟩; have HI7 := Lib.hid hI7; clear hI7)
      exact ⟨⟨k + 1, by omega, by go_num, HI7⟩, by simp [intOf]; omega⟩
    · obtain rfl : k = 22 := by omega
      have HD := Lib.hid hI.out.done
      go_wp2_with fail
      refine HD.out.mono ?_
      rintro e w8 ⟨go, cu, rfl, hgo, hco, ⟨S8, hc8, hn8, hnow8, hcalls8⟩, hf8, hgl8⟩
      have p0 : w8.cell? ⟨gl, 0, none⟩ = some (.int .i64 65537) := (cellOf hgl8 0).trans (take_cell HTK.out (j := 0) (by simp))
      have p1 : w8.cell? ⟨gl, 1, none⟩ = some (.int .i64 65636) := (cellOf hgl8 1).trans (take_cell HTK.out (j := 1) (by simp))
      have o0 : w8.cell? ⟨go, 0, none⟩ = some (.int .i64 9) := (cellOf hgo 0).trans (take_cell hco (j := 0) (by decide))
      have o1 : w8.cell? ⟨go, 1, none⟩ = some (.int .i64 2) := (cellOf hgo 1).trans (take_cell hco (j := 1) (by decide))
      have o2 : w8.cell? ⟨go, 2, none⟩ = some (.int .i64 0) := (cellOf hgo 2).trans (take_cell hco (j := 2) (by decide))
      have o3 : w8.cell? ⟨go, 3, none⟩ = some (.int .i64 0) := (cellOf hgo 3).trans (take_cell hco (j := 3) (by decide))
      have o4 : w8.cell? ⟨go, 4, none⟩ = some (.int .i64 0) := (cellOf hgo 4).trans (take_cell hco (j := 4) (by decide))
      have o5 : w8.cell? ⟨go, 5, none⟩ = some (.int .i64 0) := (cellOf hgo 5).trans (take_cell hco (j := 5) (by decide))
      have o6 : w8.cell? ⟨go, 6, none⟩ = some (.int .i64 0) := (cellOf hgo 6).trans (take_cell hco (j := 6) (by decide))
      have o7 : w8.cell? ⟨go, 7, none⟩ = some (.string ByteArray.empty) := (cellOf hgo 7).trans (take_cell hco (j := 7) (by decide))
      have o8 : w8.cell? ⟨go, 8, none⟩ = some (.int .i64 22) := (cellOf hgo 8).trans (take_cell hco (j := 8) (by decide))
      have hw8 : waterM S8 = 10 := by unfold waterM; rw [hcalls8]; exact hn8
      have HW := Lib.hid (Water_any hc8)
      have HNw := Lib.hid (Now_any hc8)
      rw [hw8] at HW
      rw [hnow8] at HNw
      have HF8 := Lib.hid hf8
      clear hgo hco hc8 hn8 hnow8 hcalls8 hf8 hgl8 hw8 HD HTK hI
      go_wp2_with (first
        | (go_at_call 40; refine HW.out.mono ?_; rintro e w9 ⟨rfl, hw⟩; obtain rfl : w8 = w9 := hw.symm)
        | (go_at_call 41; refine HNw.out.mono ?_; rintro e w9 ⟨rfl, hw⟩; obtain rfl : w8 = w9 := hw.symm))
      go_ret
      exact ⟨rfl, HF8.out⟩
end Go.Proofs.YtlcjfafmmoncpaaGreatDoor
