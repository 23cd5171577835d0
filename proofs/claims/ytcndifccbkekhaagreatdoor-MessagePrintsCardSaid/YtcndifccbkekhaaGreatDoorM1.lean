/- callboxlaw12.MessagePrints, walked. -/
import Derived.Test.YtcndifccbkekhaaGreatDoorKn
namespace Go.Proofs.YtcndifccbkekhaaGreatDoor
open Go.RowKit
set_option linter.unusedVariables false
set_option linter.unusedSimpArgs false

set_option maxRecDepth 100000 in
set_option maxHeartbeats 4000000 in
theorem MessagePrints_any (c : CallM) (r : ReplyM) (w : World) (hg : ErrT w) (h1 : c.cred.body.size ≤ 140737488351232) (h2 : c.verf.body.size ≤ 140737488351232) (h3 : c.args.size ≤ 140737488351232) (h4 : r.verf.body.size ≤ 140737488351232) (h5 : r.results.size ≤ 140737488351232) :
    Calls Tryz.prog 3 #[.agg (callCells c), .agg (replyCells r)] w fun e w' => e = .returned (.bool true) ∧ Fr (fun _ => False) w w' := by
  have HG := Lib.hid hg
  have hx0 := Lib.hid (heap_old (o := .cells (replyCells r) 27) (heap_alloc_new w (.cells (callCells c) 25)))
  have hx1 := Lib.hid (heap_two (w := w) (a := .cells (callCells c) 25) (b := .cells (replyCells r) 27))
  have hf : Fr (fun _ => False) w ((w.alloc (.cells (callCells c) 25)).alloc (.cells (replyCells r) 27)) := ((Fr.refl _ _).alloc _).alloc _
  have HC := Lib.hid (fun w hg => PrintCall_any c w hg h1 h2 h3)
  have HR := Lib.hid (fun w hg => PrintReply_any r w hg h4 h5)
  have HC2 : Hid (∀ w, Calls Tryz.prog 13 #[.agg (callCells c)] w fun r w' => r = .returned (.tuple #[.string (printCallM c).1, .int .i64 (printCallM c).2]) ∧ Fr (fun _ => False) w w') := Lib.hid (fun w => by
    have := rPrintCall_any c w h1 h2 h3; rwa [printCall_same] at this)
  have HR2 : Hid (∀ w, Calls Tryz.prog 15 #[.agg (replyCells r)] w fun e w' => e = .returned (.tuple #[.string (printReplyM r).1, .int .i64 (printReplyM r).2]) ∧ Fr (fun _ => False) w w') := Lib.hid (fun w => by
    have := rPrintReply_any r w h4 h5; rwa [printReply_same] at this)
  generalize printCallM c = pc at HC HC2
  generalize printReplyM r = pr at HR HR2
  clear h1 h2 h3 h4 h5 hg
  unfold callCells replyCells at *
  go_enter Tryz.func3, Tryz.ntmps3
  go_wp2_with fail
  refine (known12_any _ (HG.out.fr hf id)).mono ?_
  rintro e w1 ⟨rfl, hf1⟩
  replace hf := hf.trans hf1
  have hx0 := hidMove hx0 hf1 id
  have hx1 := hidMove hx1 hf1 id
  obtain ⟨n0, n1, n2, n3, n4, n5, n6, n7, n8, n9⟩ := box10 hx0
  go_wp2_with fail
  refine (HC.out _ (HG.out.fr hf id)).mono ?_
  rintro e w2 ⟨rfl, hf1⟩
  clear n0 n1 n2 n3 n4 n5 n6 n7 n8 n9
  replace hf := hf.trans hf1
  have hx0 := hidMove hx0 hf1 id
  have hx1 := hidMove hx1 hf1 id
  obtain ⟨n0, n1, n2, n3, n4, n5, n6, n7, n8, n9⟩ := box10 hx0
  go_wp2_with fail
  refine (HC2.out _).mono ?_
  rintro e w3 ⟨rfl, hf1⟩
  clear n0 n1 n2 n3 n4 n5 n6 n7 n8 n9
  replace hf := hf.trans hf1
  have hx1 := hidMove hx1 hf1 id
  obtain ⟨n0, n1, n2, n3, n4, n5, n6, n7, n8, n9⟩ := box10 hx1
  go_wp2_with fail
  refine (HR.out _ (HG.out.fr hf id)).mono ?_
  rintro e w4 ⟨rfl, hf1⟩
  clear n0 n1 n2 n3 n4 n5 n6 n7 n8 n9
  replace hf := hf.trans hf1
  have hx1 := hidMove hx1 hf1 id
  obtain ⟨n0, n1, n2, n3, n4, n5, n6, n7, n8, n9⟩ := box10 hx1
  go_wp2_with fail
  refine (HR2.out _).mono ?_
  rintro e w5 ⟨rfl, hf1⟩
  clear n0 n1 n2 n3 n4 n5 n6 n7 n8 n9
  have HF := Lib.hid (hf.trans hf1)
  clear hf hf1
  go_wp2
  go_ret
  exact ⟨by simp, HF.out⟩
end Go.Proofs.YtcndifccbkekhaaGreatDoor
