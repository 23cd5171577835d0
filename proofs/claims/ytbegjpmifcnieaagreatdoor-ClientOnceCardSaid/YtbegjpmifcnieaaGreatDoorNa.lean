/- The document's messages (callboxref12): whether they may be. -/
import Derived.Test.YtbegjpmifcnieaaGreatDoorR2
import Derived.Test.YtbegjpmifcnieaaGreatDoorMc
namespace Go.Proofs.YtbegjpmifcnieaaGreatDoor
open Go.RowKit
set_option linter.unusedVariables false
set_option linter.unusedSimpArgs false

structure ReplyM where
  xid : Int
  denied : Bool
  verf : AuthM
  accept : Int
  reject : Int
  why : Int
  low : Int
  high : Int
  results : ByteArray
def replyCells (r : ReplyM) : Array Value := #[.int .i64 r.xid, .bool r.denied, .int .i64 r.verf.flavor, .string r.verf.body, .int .i64 r.accept, .int .i64 r.reject, .int .i64 r.why, .int .i64 r.low, .int .i64 r.high, .string r.results]

theorem word12_any (n : Int) (w : World) : Calls Tryz.prog 195 #[.int .i64 n] w fun r w' => r = .returned (.bool (isWordB n)) ∧ w = w' := by
  by_cases h : 0 ≤ n
  · by_cases h2 : n ≤ 4294967295
    · rw [isWordB_of ⟨h, h2⟩]
      go_enter Tryz.func195, Tryz.ntmps195
      go_wp2
      go_ret
      exact ⟨rfl, rfl⟩
    · rw [isWordB_no (fun h => h2 h.2)]
      go_enter Tryz.func195, Tryz.ntmps195
      go_wp2
      go_ret
      exact ⟨rfl, rfl⟩
  · rw [isWordB_no (fun h2 => h h2.1)]
    go_enter Tryz.func195, Tryz.ntmps195
    go_wp2
    go_ret
    exact ⟨rfl, rfl⟩

def authMayB (a : AuthM) : Bool := isWordB a.flavor && decide ((a.body.size : Int) ≤ 400)
theorem authMay_any (a : AuthM) (w : World) (hs : a.body.size ≤ 140737488351232) : Calls Tryz.prog 196 #[.agg #[.int .i64 a.flavor, .string a.body]] w fun r w' => r = .returned (.bool (authMayB a)) ∧ Fr (fun _ => False) w w' := by
  have HW := Lib.hid (fun w => word12_any a.flavor w)
  unfold authMayB
  generalize isWordB a.flavor = b at HW ⊢
  go_enter Tryz.func196, Tryz.ntmps196
  go_wp2_with fail
  refine (HW.out _).mono ?_
  rintro e w1 ⟨rfl, rfl⟩
  cases b with
  | false =>
    go_wp2
    go_ret
    exact ⟨rfl, (Fr.refl _ _).alloc _⟩
  | true =>
    go_wp2
    go_ret
    exact ⟨by simp, (Fr.refl _ _).alloc _⟩

theorem plain_any (s : ByteArray) (w : World) (hs : s.size ≤ 140737488351232) : Calls Tryz.prog 197 #[.string s] w fun r w' => r = .returned (.bool (fitsB s)) ∧ w = w' := by
  by_cases h : (s.size : Int) ≤ 1000
  · by_cases h2 : ((s.size : Int) % 4 == 0) = true
    · rw [show fitsB s = true by simp only [fitsB, h, h2]; rfl]
      go_enter Tryz.func197, Tryz.ntmps197
      go_wp2
      go_ret
      exact ⟨rfl, rfl⟩
    · rw [Bool.not_eq_true] at h2
      rw [show fitsB s = false by simp only [fitsB, h, h2]; rfl]
      go_enter Tryz.func197, Tryz.ntmps197
      go_wp2
      go_ret
      exact ⟨rfl, rfl⟩
  · rw [show fitsB s = false by simp only [fitsB, h]; rfl]
    go_enter Tryz.func197, Tryz.ntmps197
    go_wp2
    go_ret
    exact ⟨rfl, rfl⟩

def callMayB (c : CallM) : Bool := isWordB c.xid && isWordB c.prog && isWordB c.vers && isWordB c.proc && authMayB c.cred && authMayB c.verf && fitsB c.args && (c.rpc == 2)
set_option maxRecDepth 100000 in
set_option maxHeartbeats 2000000 in
theorem CallMay_any (c : CallM) (w : World) (h1 : c.cred.body.size ≤ 140737488351232) (h2 : c.verf.body.size ≤ 140737488351232) (h3 : c.args.size ≤ 140737488351232) :
    Calls Tryz.prog 117 #[.agg (callCells c)] w fun r w' => r = .returned (.bool (callMayB c)) ∧ Fr (fun _ => False) w w' := by
  have hx := Lib.hid (heap_alloc_new w (.cells (callCells c) 85))
  have hf : Fr (fun _ => False) w (w.alloc (.cells (callCells c) 85)) := (Fr.refl _ _).alloc _
  have H1 := Lib.hid (fun w => word12_any c.xid w)
  have H2 := Lib.hid (fun w => word12_any c.prog w)
  have H3 := Lib.hid (fun w => word12_any c.vers w)
  have H4 := Lib.hid (fun w => word12_any c.proc w)
  have H5 := Lib.hid (fun w => authMay_any c.cred w h1)
  have H6 := Lib.hid (fun w => authMay_any c.verf w h2)
  have H7 := Lib.hid (fun w => plain_any c.args w h3)
  unfold callMayB callCells at *
  generalize isWordB c.xid = b1 at H1 ⊢
  generalize isWordB c.prog = b2 at H2 ⊢
  generalize isWordB c.vers = b3 at H3 ⊢
  generalize isWordB c.proc = b4 at H4 ⊢
  generalize authMayB c.cred = b5 at H5 ⊢
  generalize authMayB c.verf = b6 at H6 ⊢
  generalize fitsB c.args = b7 at H7 ⊢
  clear h1 h2 h3
  go_enter Tryz.func117, Tryz.ntmps117
  go_wp2_with fail
  refine (H1.out _).mono ?_
  rintro e w1 ⟨rfl, rfl⟩
  go_wp2_with fail
  refine (H2.out _).mono ?_
  rintro e w1 ⟨rfl, rfl⟩
  go_wp2_with fail
  refine (H3.out _).mono ?_
  rintro e w1 ⟨rfl, rfl⟩
  go_wp2_with fail
  refine (H4.out _).mono ?_
  rintro e w1 ⟨rfl, rfl⟩
  go_wp2_with fail
  refine (H5.out _).mono ?_
  rintro e w1 ⟨rfl, hf1⟩
  replace hx := hidMove hx hf1 id
  replace hf := hf.then hf1 (fun _ _ h => h)
  obtain ⟨n0, n1, n2, n3, n4, n5, n6, n7, n8, n9⟩ := box10 hx
  clear hf1
  go_wp2_with fail
  refine (H6.out _).mono ?_
  rintro e w2 ⟨rfl, hf1⟩
  clear n0 n1 n2 n3 n4 n5 n6 n7 n8 n9
  replace hx := hidMove hx hf1 id
  replace hf := hf.then hf1 (fun _ _ h => h)
  obtain ⟨n0, n1, n2, n3, n4, n5, n6, n7, n8, n9⟩ := box10 hx
  clear hf1
  go_wp2_with fail
  refine (H7.out _).mono ?_
  rintro e w3 ⟨rfl, rfl⟩
  have HF := Lib.hid hf
  clear hf H1 H2 H3 H4 H5 H6 H7
  cases b1
  case false => go_wp2; go_ret; exact ⟨rfl, HF.out⟩
  cases b2
  case false => go_wp2; go_ret; exact ⟨rfl, HF.out⟩
  cases b3
  case false => go_wp2; go_ret; exact ⟨rfl, HF.out⟩
  cases b4
  case false => go_wp2; go_ret; exact ⟨rfl, HF.out⟩
  cases b5
  case false => go_wp2; go_ret; exact ⟨rfl, HF.out⟩
  cases b6
  case false => go_wp2; go_ret; exact ⟨rfl, HF.out⟩
  cases b7
  case false => go_wp2; go_ret; exact ⟨rfl, HF.out⟩
  go_wp2
  go_ret
  exact ⟨by simp, HF.out⟩

def noVerf (a : AuthM) : Bool := a.flavor == 0 && a.body.toList.isEmpty
def mayR (b1 b2 b3 b5 b7 : Bool) (r : ReplyM) : Bool := b1 &&
  (if r.denied then noVerf r.verf && (r.accept == 0) && r.results.toList.isEmpty && (if r.reject = 0 then b2 && b3 && (r.why == 0) else if r.reject = 1 then (r.low == 0) && (r.high == 0) && decide (0 ≤ r.why) && decide (r.why ≤ 14) else false)
   else b5 && (r.reject == 0) && (r.why == 0) && decide (0 ≤ r.accept) && decide (r.accept ≤ 5) && (if r.accept = 0 then b7 && ((r.low == 0) && (r.high == 0)) else if r.accept = 2 then b2 && b3 && r.results.toList.isEmpty else ((r.low == 0) && (r.high == 0)) && r.results.toList.isEmpty))
def replyMayB (r : ReplyM) : Bool := mayR (isWordB r.xid) (isWordB r.low) (isWordB r.high) (authMayB r.verf) (fitsB r.results) r
end Go.Proofs.YtbegjpmifcnieaaGreatDoor
