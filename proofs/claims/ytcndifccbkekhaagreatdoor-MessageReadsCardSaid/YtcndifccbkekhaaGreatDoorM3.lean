/- callboxlaw12.MessageReads, walked. -/
import Derived.Test.YtcndifccbkekhaaGreatDoorL2
import Derived.Test.YtcndifccbkekhaaGreatDoorL4
import Derived.Test.YtcndifccbkekhaaGreatDoorKn
namespace Go.Proofs.YtcndifccbkekhaaGreatDoor
open Go.RowKit
set_option linter.unusedVariables false
set_option linter.unusedSimpArgs false

set_option maxRecDepth 100000 in
set_option maxHeartbeats 16000000 in
theorem MessageReads_any (s : ByteArray) (c : CallM) (r : ReplyM) (at1 by1 : Int) (w : World) (hg : ErrT w) (hs : s.size ≤ 140737488351232) (hc : CallI c) (h1 : c.cred.body.size ≤ 140737488351232) (h2 : c.verf.body.size ≤ 140737488351232) (h3 : c.args.size ≤ 140737488351232) (hr : ReplyI r) (h4 : r.verf.body.size ≤ 140737488351232) (h5 : r.results.size ≤ 140737488351232) (ha : InI at1) (hb : InI by1) :
    Calls Tryz.prog 8 #[.string s, .agg (callCells c), .agg (replyCells r), .int .i64 at1, .int .i64 by1] w fun e w' => e = .returned (.bool true) ∧ Fr (fun _ => False) w w' := by
  have HG := Lib.hid hg
  have HF := Lib.hid (fun w => fitted_any c w hc h1 h2 h3)
  have HT := Lib.hid (fun w => told12_any r w hr h4 h5)
  have hcm := fitted_may c
  have hrm := told_may r
  generalize fittedM c = x at HF hcm
  generalize toldM r = y at HT hrm
  have sx := call_small hcm
  have sy := reply_small hrm
  have HPC := Lib.hid (fun w => (printCall_yes hcm).2 ▸ rPrintCall_any x w sx.1 sx.2.1 sx.2.2)
  have HPR := Lib.hid (fun w => (printReply_yes hrm).2 ▸ rPrintReply_any y w sy.1 sy.2)
  have st : (callStr x).size ≤ 1900 := by have := (callStr_four hcm).2.1; omega
  have su : (replyStr y).size ≤ 1900 := (replyStr_four hrm).2
  generalize callStr x = t at HPC st
  generalize replyStr y = u at HPR su
  have HB1 : Hid (∀ (q : ByteArray) (a : Int) (w : World), q.size ≤ 1900 → InI a → Calls Tryz.prog 38 #[.string q, .int .i64 a, .int .i64 by1] w fun r w' => (∃ s' : ByteArray, s'.size = q.size ∧ r = .returned (.string s')) ∧ Fr (fun _ => False) w w') := Lib.hid (fun q a w hq ha => bent_any q a by1 w (by omega) ha hb)
  have HP : Hid (∀ (n : Int) (w : World), 0 < n → n ≤ 2000 → Calls Tryz.prog 39 #[.int .i64 at1, .int .i64 n] w fun r w' => r = .returned (.int .i64 (pickM at1 n)) ∧ w = w') := Lib.hid (fun n w h0 h1 => pick_any at1 n w ha h0 (by omega))
  have HA := Lib.hid ha
  clear hcm hrm sx sy h1 h2 h3 h4 h5 hg hc hr ha hb
  have hB : ABo w [(w.heap.size + 1, .cells (replyCells r) 27 (0, 0)), (w.heap.size, .cells (callCells c) 25 (0, 0))] ((w.alloc (.cells (callCells c) 25)).alloc (.cells (replyCells r) 27)) := ((ABo.start w).more _ rfl).more _ (by simp)
  unfold callCells replyCells at *
  by_cases hl : (s.size : Int) ≤ 2147481647
  case neg =>
    have hl' := Int.not_le.1 hl
    go_enter Tryz.func8, Tryz.ntmps8
    go_wp2
    go_ret
    exact ⟨rfl, hB.fr⟩
  have hs2 : s.size ≤ 2147481647 := by omega
  clear hs
  go_enter Tryz.func8, Tryz.ntmps8
  go_wp2_with fail
  refine (known12_any _ (HG.out.fr hB.fr id)).mono ?_
  rintro e w1 ⟨rfl, hf1⟩
  replace hB := hB.stay hf1
  clear hf1
  go_wp2_with fail
  refine (reads12_any s _ (HG.out.fr hB.fr id) (by omega)).mono ?_
  rintro e w2 ⟨rfl, hf1⟩
  replace hB := hB.stay hf1
  clear hf1
  obtain ⟨n0, n1, n2, n3, n4, n5, n6, n7, n8, n9⟩ := box10 (Lib.hid (hB.at 1 rfl))
  go_wp2_with fail
  refine (HF.out _).mono ?_
  rintro e w3 ⟨rfl, hf1⟩
  clear n0 n1 n2 n3 n4 n5 n6 n7 n8 n9
  replace hB := hB.stay hf1
  clear hf1
  go_wp2_with fail
  refine (HPC.out _).mono ?_
  rintro e w4 ⟨rfl, hf1⟩
  replace hB := hB.stay hf1
  clear hf1
  obtain ⟨n0, n1, n2, n3, n4, n5, n6, n7, n8, n9⟩ := box10 (Lib.hid (hB.at 0 rfl))
  go_wp2_with fail
  refine (HT.out _).mono ?_
  rintro e w5 ⟨rfl, hf1⟩
  clear n0 n1 n2 n3 n4 n5 n6 n7 n8 n9
  replace hB := hB.stay hf1
  clear hf1
  go_wp2_with fail
  refine (HPR.out _).mono ?_
  rintro e w6 ⟨rfl, hf1⟩
  have HB := Lib.hid (((hB.stay hf1).sub (B' := []) (by simp)).more (Obj.cells #[.string t, .string u] 9 (0, 0)) rfl)
  clear hf1 hB HF HPC HT HPR
  go_wp2_with fail
  go_loopw [18] (fun q wr => ∃ k : Nat, k ≤ 2 ∧ q = .int .i64 k ∧ Hid (ABo w [(w6.heap.size, Obj.cells #[.string t, .string u] 9 (0, 0))] wr)) (fun q _ => 2 - (intOf q).toNat)
  case atStart => exact ⟨0, by omega, rfl, HB⟩
  case round => as_aux_lemma =>
    clear HB
    obtain ⟨k, hkk, rfl, HB⟩ := hrel
    by_cases hlt : k < 2
    · obtain ⟨q, hq, hqs⟩ : ∃ q : ByteArray, wr.cell? ⟨w6.heap.size, k, none⟩ = some (.string q) ∧ q.size ≤ 1900 := by
        rcases (by omega : k = 0 ∨ k = 1) with rfl | rfl
        · exact ⟨t, cellOf (HB.out.at 0 rfl) 0, st⟩
        · exact ⟨u, cellOf (HB.out.at 0 rfl) 1, su⟩
      clear st su
      have hpl := pickM_range at1 ((q.size : Int) + 1) (by omega)
      have hp48 := pickM_range at1 48 (by omega)
      go_wp2_with fail
      refine (reads12_any q _ (HG.out.fr HB.out.fr id) (by omega)).mono ?_
      rintro e v1 ⟨rfl, hf1⟩
      replace HB := Lib.hid (HB.out.stay hf1)
      clear hf1 hq
      go_wp2_with fail
      refine (HB1.out q at1 _ hqs HA.out).mono ?_
      rintro e v2 ⟨⟨s1, hs1, rfl⟩, hf1⟩
      replace HB := Lib.hid (HB.out.stay hf1)
      clear hf1
      go_wp2_with fail
      refine (reads12_any s1 _ (HG.out.fr HB.out.fr id) (by omega)).mono ?_
      rintro e v3 ⟨rfl, hf1⟩
      replace HB := Lib.hid (HB.out.stay hf1)
      clear hf1
      go_wp2_with fail
      refine (HP.out 48 _ (by omega) (by omega)).mono ?_
      rintro e v4 ⟨rfl, rfl⟩
      go_wp2_with fail
      refine (HB1.out q _ _ hqs (by unfold InI; omega)).mono ?_
      rintro e v4 ⟨⟨s2, hs2', rfl⟩, hf1⟩
      replace HB := Lib.hid (HB.out.stay hf1)
      clear hf1
      go_wp2_with fail
      refine (reads12_any s2 _ (HG.out.fr HB.out.fr id) (by omega)).mono ?_
      rintro e v5 ⟨rfl, hf1⟩
      replace HB := Lib.hid (HB.out.stay hf1)
      clear hf1
      go_wp2_with fail
      refine (HP.out _ _ (by omega) (by omega)).mono ?_
      rintro e v6 ⟨rfl, rfl⟩
      generalize pickM at1 ((q.size : Int) + 1) = p at hpl
      obtain ⟨pn, rfl⟩ : ∃ n : Nat, p = (n : Int) := ⟨p.toNat, by omega⟩
      have hpn : (q.extract 0 pn).size ≤ 1900 := by rw [ByteArray.size_extract]; omega
      have hqq : (q ++ s).size ≤ 140737488351232 := by rw [ByteArray.size_append]; omega
      go_wp2_with fail
      refine (reads12_any (q.extract 0 pn) _ (HG.out.fr HB.out.fr id) (by omega)).mono ?_
      rintro e v7 ⟨rfl, hf1⟩
      replace HB := Lib.hid (HB.out.stay hf1)
      clear hf1
      go_wp2_with fail
      refine (reads12_any (q ++ s) _ (HG.out.fr HB.out.fr id) hqq).mono ?_
      rintro e v8 ⟨rfl, hf1⟩
      replace HB := Lib.hid (HB.out.stay hf1)
      clear hf1
      go_wp2
      exact ⟨⟨k + 1, by omega, by go_num, HB⟩, by simp [intOf]; omega⟩
    · go_wp2
      go_ret
      exact ⟨rfl, HB.out.fr⟩
end Go.Proofs.YtcndifccbkekhaaGreatDoor
