/- callboxlaw12.MessageBack, walked. -/
import Derived.Test.YtcndifccbkekhaaGreatDoorL2
import Derived.Test.YtcndifccbkekhaaGreatDoorL4
import Derived.Test.YtcndifccbkekhaaGreatDoorKn
import Derived.Test.YtcndifccbkekhaaGreatDoorPr
import Derived.Test.YtcndifccbkekhaaGreatDoorMq
import Derived.Laws.StructEq
namespace Go.Proofs.YtcndifccbkekhaaGreatDoor
open Go.RowKit
set_option linter.unusedVariables false
set_option linter.unusedSimpArgs false

set_option maxRecDepth 100000 in
set_option maxHeartbeats 16000000 in
theorem MessageBack_any (c : CallM) (r : ReplyM) (s : ByteArray) (w : World) (hg : ErrT w) (hc : CallI c) (h1 : c.cred.body.size ≤ 140737488351232) (h2 : c.verf.body.size ≤ 140737488351232) (h3 : c.args.size ≤ 140737488351232) (hr : ReplyI r) (h4 : r.verf.body.size ≤ 140737488351232) (h5 : r.results.size ≤ 140737488351232) (hs : s.size ≤ 140737488351232) :
    Calls Tryz.prog 9 #[.agg (callCells c), .agg (replyCells r), .string s] w fun e w' => e = .returned (.bool true) ∧ Fr (fun _ => False) w w' := by
  have HG := Lib.hid hg
  have HF := Lib.hid (fun w => fitted_any c w hc h1 h2 h3)
  have HT := Lib.hid (fun w => told12_any r w hr h4 h5)
  have hcm := fitted_may c
  have hrm := told_may r
  generalize fittedM c = x at HF hcm
  generalize toldM r = y at HT hrm
  have sx := call_small hcm
  have sy := reply_small hrm
  have qx := callStr_four hcm
  have qy := replyStr_four hrm
  have HPC := Lib.hid (fun w hg => (printCall_yes hcm).1 ▸ PrintCall_any x w hg sx.1 sx.2.1 sx.2.2)
  have HPR := Lib.hid (fun w hg => (printReply_yes hrm).1 ▸ PrintReply_any y w hg sy.1 sy.2)
  have HCt := Lib.hid (fun w hg => parseCall_print hcm ▸ ParseCall_any (callStr x) w hg (by omega))
  have HRu := Lib.hid (fun w hg => parseReply_print hrm ▸ ParseReply_any (replyStr y) w hg (by omega))
  have HRt := Lib.hid (fun w hg => parseReply_call hcm ▸ ParseReply_any (callStr x) w hg (by omega))
  have HCu := Lib.hid (fun w hg => parseCall_reply hrm ▸ ParseCall_any (replyStr y) w hg (by omega))
  have mt : ((callStr x).size : Int) % 4 = 0 := by omega
  have mu : ((replyStr y).size : Int) % 4 = 0 := by omega
  have st : (callStr x).size ≤ 1840 := qx.2.1
  have su : (replyStr y).size ≤ 1900 := qy.2
  generalize callStr x = t at HPC HCt HRt mt st
  generalize replyStr y = u at HPR HRu HCu mu su
  have HCs := Lib.hid (fun w hg => ParseCall_any s w hg hs)
  have HRs := Lib.hid (fun w hg => ParseReply_any s w hg hs)
  have HAC : Hid ((parseCallM s).2 = 0 → (parseCallM s).1.rpc = 2 → ∀ w, ErrT w → Calls Tryz.prog 12 #[.agg (callCells (parseCallM s).1)] w fun e w' => e = .returned (.tuple #[.string s, .int .i64 0]) ∧ Fr (fun _ => False) w w') := Lib.hid (fun h h2 w hg => by
    have hm := call_small (call_may h h2)
    have := PrintCall_any (parseCallM s).1 w hg hm.1 hm.2.1 hm.2.2
    rwa [call_again h h2] at this)
  have HAR : Hid ((parseReplyM s).2 = 0 → ∀ w, ErrT w → Calls Tryz.prog 14 #[.agg (replyCells (parseReplyM s).1)] w fun e w' => e = .returned (.tuple #[.string s, .int .i64 0]) ∧ Fr (fun _ => False) w w') := Lib.hid (fun h w hg => by
    have hm := reply_small (reply_may h)
    have := PrintReply_any (parseReplyM s).1 w hg hm.1 hm.2
    rwa [reply_again h] at this)
  have HE1 := Lib.hid (parseCall_err s)
  have HE2 := Lib.hid (parseReply_err s)
  have HNB : Hid ((parseCallM s).2 = 0 → parseReplyM s = (zeroReply, 121)) := Lib.hid not_both
  generalize parseCallM s = pc at HCs HAC HE1 HNB
  generalize parseReplyM s = pr at HRs HAR HE2 HNB
  clear hcm hrm sx sy qx qy h1 h2 h3 h4 h5 hg hc hr hs
  have hB : ABo w [(w.heap.size + 1, .cells (replyCells r) 27 (0, 0)), (w.heap.size, .cells (callCells c) 25 (0, 0))] ((w.alloc (.cells (callCells c) 25)).alloc (.cells (replyCells r) 27)) := ((ABo.start w).more _ rfl).more _ (by simp)
  unfold callCells replyCells at *
  go_enter Tryz.func9, Tryz.ntmps9
  go_wp2_with fail
  refine (known12_any _ (HG.out.fr hB.fr id)).mono ?_
  rintro e w1 ⟨rfl, hf1⟩
  replace hB := hB.stay hf1
  clear hf1
  obtain ⟨n0, n1, n2, n3, n4, n5, n6, n7, n8, n9⟩ := box10 (Lib.hid (hB.at 1 rfl))
  go_wp2_with fail
  refine (HF.out _).mono ?_
  rintro e w2 ⟨rfl, hf1⟩
  clear n0 n1 n2 n3 n4 n5 n6 n7 n8 n9
  replace hB := (hB.stay hf1).more (.cells (callCells x) 25) rfl
  unfold callCells at hB
  clear hf1
  obtain ⟨n0, n1, n2, n3, n4, n5, n6, n7, n8, n9⟩ := box10 (Lib.hid (hB.at 1 rfl))
  go_wp2_with fail
  refine (HT.out _).mono ?_
  rintro e w3 ⟨rfl, hf1⟩
  clear n0 n1 n2 n3 n4 n5 n6 n7 n8 n9
  replace hB := (hB.stay hf1).more (.cells (replyCells y) 27) rfl
  unfold replyCells at hB
  clear hf1
  obtain ⟨n0, n1, n2, n3, n4, n5, n6, n7, n8, n9⟩ := box10 (Lib.hid (hB.at 1 rfl))
  go_wp2_with fail
  refine (HPC.out _ (HG.out.fr hB.fr id)).mono ?_
  rintro e w4 ⟨rfl, hf1⟩
  clear n0 n1 n2 n3 n4 n5 n6 n7 n8 n9
  replace hB := hB.stay hf1
  clear hf1
  obtain ⟨n0, n1, n2, n3, n4, n5, n6, n7, n8, n9⟩ := box10 (Lib.hid (hB.at 0 rfl))
  go_wp2_with fail
  refine (HPR.out _ (HG.out.fr hB.fr id)).mono ?_
  rintro e w5 ⟨rfl, hf1⟩
  clear n0 n1 n2 n3 n4 n5 n6 n7 n8 n9
  replace hB := hB.stay hf1
  clear hf1
  go_wp2_with fail
  refine (HCt.out _ (HG.out.fr hB.fr id)).mono ?_
  rintro e w6 ⟨rfl, hf1⟩
  replace hB := (hB.stay hf1).more (.cells (callCells x) 25) rfl
  unfold callCells at hB
  clear hf1
  go_wp2_with fail
  refine (HRu.out _ (HG.out.fr hB.fr id)).mono ?_
  rintro e w7 ⟨rfl, hf1⟩
  replace hB := (hB.stay hf1).more (.cells (replyCells y) 27) rfl
  unfold replyCells at hB
  clear hf1
  go_wp2_with fail
  refine (HRt.out _ (HG.out.fr hB.fr id)).mono ?_
  rintro e w8 ⟨rfl, hf1⟩
  replace hB := (hB.stay hf1).stay ((Fr.refl _ _).alloc (.cells (replyCells zeroReply) 27))
  unfold replyCells at hB
  clear hf1
  go_wp2_with fail
  refine (HCu.out _ (HG.out.fr hB.fr id)).mono ?_
  rintro e w9 ⟨rfl, hf1⟩
  replace hB := (hB.stay hf1).stay ((Fr.refl _ _).alloc (.cells (callCells zeroCall) 25))
  unfold callCells at hB
  clear hf1
  obtain ⟨a0, a1, a2, a3, a4, a5, a6, a7, a8, a9⟩ := box10 (Lib.hid (hB.at 3 rfl))
  obtain ⟨b0, b1, b2, b3, b4, b5, b6, b7, b8, b9⟩ := box10 (Lib.hid (hB.at 2 rfl))
  obtain ⟨c0, c1, c2, c3, c4, c5, c6, c7, c8, c9⟩ := box10 (Lib.hid (hB.at 1 rfl))
  obtain ⟨d0, d1, d2, d3, d4, d5, d6, d7, d8, d9⟩ := box10 (Lib.hid (hB.at 0 rfl))
  go_wp2_with fail
  clear a0 a1 a2 a3 a4 a5 a6 a7 a8 a9 b0 b1 b2 b3 b4 b5 b6 b7 b8 b9 c0 c1 c2 c3 c4 c5 c6 c7 c8 c9 d0 d1 d2 d3 d4 d5 d6 d7 d8 d9 mt mu st su HPC HPR HCt HRu HRt HCu HF HT
  replace hB := hB.sub (B' := []) (by simp)
  obtain ⟨a, l⟩ := pc
  obtain ⟨b, m⟩ := pr
  rcases HE1.out with hl | hl
  · have hl0 : l = 0 := hl
    subst hl0
    obtain ⟨rfl, rfl⟩ := Prod.mk.inj (HNB.out rfl)
    have HA1 := Lib.hid (HAC.out rfl)
    clear hl HE1 HE2 HNB HAR HAC
    replace HRs : Hid (∀ w, ErrT w → Calls Tryz.prog 41 #[.string s] w fun r w' => r = .returned (.tuple #[.agg #[.int .i64 0, .bool false, .int .i64 0, .string ByteArray.empty, .int .i64 0, .int .i64 0, .int .i64 0, .int .i64 0, .int .i64 0, .string ByteArray.empty], .int .i64 121]) ∧ Fr (fun _ => False) w w') := HRs
    refine (HCs.out _ (HG.out.fr hB.fr id)).mono ?_
    rintro e v1 ⟨rfl, hf1⟩
    replace hB := (hB.stay hf1).more (.cells (callCells a) 25) rfl
    unfold callCells at hB
    clear hf1
    go_wp2_with fail
    refine (HRs.out _ (HG.out.fr hB.fr id)).mono ?_
    rintro e v2 ⟨rfl, hf1⟩
    replace hB := (hB.stay hf1).more (.cells #[.int .i64 0, .bool false, .int .i64 0, .string ByteArray.empty, .int .i64 0, .int .i64 0, .int .i64 0, .int .i64 0, .int .i64 0, .string ByteArray.empty] 27) rfl
    clear hf1 HCs HRs
    obtain ⟨n0, n1, n2, n3, n4, n5, n6, n7, n8, n9⟩ := box10 (Lib.hid (hB.at 1 rfl))
    obtain ⟨z0, z1, z2, z3, z4, z5, z6, z7, z8, z9⟩ := box10 (Lib.hid (hB.at 0 rfl))
    by_cases h2 : a.rpc = 2
    · have HA := Lib.hid (HA1.out h2)
      clear HA1
      have e2 : a.rpc = 2 := h2
      simp only [e2] at HA n1
      clear h2 e2
      go_wp2_with fail
      refine (HA.out _ (HG.out.fr hB.fr id)).mono ?_
      rintro e v3 ⟨rfl, hf1⟩
      have HF := Lib.hid (hB.fr.trans hf1)
      clear hf1
      go_wp2
      go_ret
      exact ⟨rfl, HF.out⟩
    · clear HA1
      go_wp2
      go_ret
      exact ⟨rfl, hB.fr⟩
  · obtain ⟨rfl, rfl⟩ := Prod.mk.inj hl
    clear hl HE1 HNB HAC
    replace HCs : Hid (∀ w, ErrT w → Calls Tryz.prog 40 #[.string s] w fun r w' => r = .returned (.tuple #[.agg #[.int .i64 0, .int .i64 0, .int .i64 0, .int .i64 0, .int .i64 0, .int .i64 0, .string ByteArray.empty, .int .i64 0, .string ByteArray.empty, .string ByteArray.empty], .int .i64 121]) ∧ Fr (fun _ => False) w w') := HCs
    rcases HE2.out with hm | hm
    · have hm0 : m = 0 := hm
      subst hm0
      have HA := Lib.hid (HAR.out rfl)
      clear HAR hm HE2
      refine (HCs.out _ (HG.out.fr hB.fr id)).mono ?_
      rintro e v1 ⟨rfl, hf1⟩
      replace hB := (hB.stay hf1).more (.cells #[.int .i64 0, .int .i64 0, .int .i64 0, .int .i64 0, .int .i64 0, .int .i64 0, .string ByteArray.empty, .int .i64 0, .string ByteArray.empty, .string ByteArray.empty] 25) rfl
      clear hf1
      go_wp2_with fail
      refine (HRs.out _ (HG.out.fr hB.fr id)).mono ?_
      rintro e v2 ⟨rfl, hf1⟩
      replace hB := (hB.stay hf1).more (.cells (replyCells b) 27) rfl
      unfold replyCells at hB
      clear hf1 HCs HRs
      obtain ⟨n0, n1, n2, n3, n4, n5, n6, n7, n8, n9⟩ := box10 (Lib.hid (hB.at 1 rfl))
      obtain ⟨z0, z1, z2, z3, z4, z5, z6, z7, z8, z9⟩ := box10 (Lib.hid (hB.at 0 rfl))
      go_wp2_with fail
      refine (HA.out _ (HG.out.fr hB.fr id)).mono ?_
      rintro e v3 ⟨rfl, hf1⟩
      have HF := Lib.hid (hB.fr.trans hf1)
      clear hf1
      go_wp2
      go_ret
      exact ⟨rfl, HF.out⟩
    · obtain ⟨rfl, rfl⟩ := Prod.mk.inj hm
      clear HAR hm HE2
      replace HRs : Hid (∀ w, ErrT w → Calls Tryz.prog 41 #[.string s] w fun r w' => r = .returned (.tuple #[.agg #[.int .i64 0, .bool false, .int .i64 0, .string ByteArray.empty, .int .i64 0, .int .i64 0, .int .i64 0, .int .i64 0, .int .i64 0, .string ByteArray.empty], .int .i64 121]) ∧ Fr (fun _ => False) w w') := HRs
      refine (HCs.out _ (HG.out.fr hB.fr id)).mono ?_
      rintro e v1 ⟨rfl, hf1⟩
      replace hB := (hB.stay hf1).more (.cells #[.int .i64 0, .int .i64 0, .int .i64 0, .int .i64 0, .int .i64 0, .int .i64 0, .string ByteArray.empty, .int .i64 0, .string ByteArray.empty, .string ByteArray.empty] 25) rfl
      clear hf1
      go_wp2_with fail
      refine (HRs.out _ (HG.out.fr hB.fr id)).mono ?_
      rintro e v2 ⟨rfl, hf1⟩
      replace hB := (hB.stay hf1).more (.cells #[.int .i64 0, .bool false, .int .i64 0, .string ByteArray.empty, .int .i64 0, .int .i64 0, .int .i64 0, .int .i64 0, .int .i64 0, .string ByteArray.empty] 27) rfl
      clear hf1 HCs HRs
      obtain ⟨n0, n1, n2, n3, n4, n5, n6, n7, n8, n9⟩ := box10 (Lib.hid (hB.at 1 rfl))
      obtain ⟨z0, z1, z2, z3, z4, z5, z6, z7, z8, z9⟩ := box10 (Lib.hid (hB.at 0 rfl))
      go_wp2
      go_ret
      exact ⟨rfl, hB.fr⟩
end Go.Proofs.YtcndifccbkekhaaGreatDoor
