/- callboxlaw12: the first calls, whose answers are fixed. -/
import Derived.Test.YtcndifccbkekhaaGreatDoorMq
import Derived.Test.YtcndifccbkekhaaGreatDoorPc
import Derived.Test.YtcndifccbkekhaaGreatDoorNf
import Derived.Laws.StructEq
import Derived.Laws.IdiomStrings
namespace Go.Proofs.YtcndifccbkekhaaGreatDoor
open Go.RowKit
set_option linter.unusedVariables false
set_option linter.unusedSimpArgs false

def kCall : CallM := ⟨1, 2, 100000, 2, 3, zeroAuth, zeroAuth, ByteArray.empty⟩
def kReply : ReplyM := ⟨1, true, zeroAuth, 0, 1, 5, 0, 0, ByteArray.empty⟩
def kText : ByteArray := ⟨#[0, 0, 0, 9, 0, 0, 0, 0, 0, 0, 0, 3]⟩
def kCallS : ByteArray := ⟨#[0, 0, 0, 1, 0, 0, 0, 0, 0, 0, 0, 2, 0, 1, 134, 160, 0, 0, 0, 2, 0, 0, 0, 3, 0, 0, 0, 0, 0, 0, 0, 0, 0, 0, 0, 0, 0, 0, 0, 0]⟩
def kReplyS : ByteArray := ⟨#[0, 0, 0, 1, 0, 0, 0, 1, 0, 0, 0, 1, 0, 0, 0, 1, 0, 0, 0, 5]⟩
def kHead : ByteArray := ⟨#[0, 0, 0, 1, 0, 0, 0, 0, 0, 0, 0, 2, 0, 1, 134, 160, 0, 0, 0, 2, 0, 0, 0, 3]⟩
def kZeros : ByteArray := ⟨#[0, 0, 0, 0, 0, 0, 0, 0, 0, 0, 0, 0, 0, 0, 0, 0]⟩
theorem kCall_is : printCallM kCall = (kCallS, 0) := by
  rw [(printCall_yes (c := kCall) (by kernel_rfl)).1, show callStr kCall = kCallS by kernel_rfl]
theorem kReply_is : printReplyM kReply = (kReplyS, 0) := by
  rw [(printReply_yes (r := kReply) (by kernel_rfl)).1, show replyStr kReply = kReplyS by kernel_rfl]
theorem kText_is : parseCallM kText = ({ zeroCall with xid := 9, rpc := 3 }, 0) := by
  unfold parseCallM
  rw [show (RSt.mk kText 0).kind = 0 by kernel_rfl, show (RSt.mk kText 0).third = 3 by kernel_rfl, if_pos ⟨by decide, rfl, by decide⟩]
  have : (RSt.mk kText 0).call3 = { zeroCall with xid := 9, rpc := 3 } := by
    unfold RSt.call3
    rw [show (RSt.mk kText 0).uintV = 9 by kernel_rfl, show (RSt.mk kText 0).third = 3 by kernel_rfl]
  rw [this]

def sameC (a b : CallM) : Bool := (a.xid == b.xid) && (a.rpc == b.rpc) && (a.prog == b.prog) && (a.vers == b.vers) && (a.proc == b.proc) && (a.cred.flavor == b.cred.flavor) && (a.cred.body.toList == b.cred.body.toList) && (a.verf.flavor == b.verf.flavor) && (a.verf.body.toList == b.verf.body.toList) && (a.args.toList == b.args.toList)
theorem sameC_iff {a b : CallM} : sameC a b = true ↔ a = b := by
  obtain ⟨a0, a1, a2, a3, a4, ⟨a5, a6⟩, ⟨a7, a8⟩, a9⟩ := a
  obtain ⟨b0, b1, b2, b3, b4, ⟨b5, b6⟩, ⟨b7, b8⟩, b9⟩ := b
  have e : ∀ {a b : ByteArray}, a.toList = b.toList ↔ a = b := fun {a b} => by rw [← toList_inj, beq_iff_eq]
  simp only [sameC, Bool.and_eq_true, beq_iff_eq, e, CallM.mk.injEq, AuthM.mk.injEq, and_assoc]
set_option maxRecDepth 100000 in
theorem eql_call (a b : CallM) (w : World) : (binOp .eql 25 (.agg (callCells a)) (.agg (callCells b))).run Tryz.prog w = .ok (.bool (sameC a b)) w := by
  unfold callCells sameC
  go_simp
  repeat' split
  all_goals simp [*]
theorem eqGuard_call (op : BinOp) (a b : CallM) (x y : Operand) (w : World) : (eqGuard op 25 x y (.agg (callCells a)) (.agg (callCells b))).run Tryz.prog w = .ok () w := by
  unfold callCells
  go_simp

set_option maxRecDepth 100000 in
set_option maxHeartbeats 4000000 in
theorem known12_any (w : World) (hg : ErrT w) : Calls Tryz.prog 11 #[] w fun r w' => r = .returned (.bool true) ∧ Fr (fun _ => False) w w' := by
  have HG := Lib.hid hg
  clear hg
  have h0 : ByteArray.empty.size ≤ 140737488351232 := Nat.zero_le _
  have hc : Hid (∀ w, ErrT w → Calls Tryz.prog 12 #[.agg (callCells kCall)] w fun r w' => r = .returned (.tuple #[.string kCallS, .int .i64 0]) ∧ Fr (fun _ => False) w w') := Lib.hid (fun w hg => by
    have := PrintCall_any kCall w hg h0 h0 h0; rwa [kCall_is] at this)
  have hr : Hid (∀ w, ErrT w → Calls Tryz.prog 14 #[.agg (replyCells kReply)] w fun r w' => r = .returned (.tuple #[.string kReplyS, .int .i64 0]) ∧ Fr (fun _ => False) w w') := Lib.hid (fun w hg => by
    have := PrintReply_any kReply w hg h0 h0; rwa [kReply_is] at this)
  have hp : Hid (∀ w, ErrT w → Calls Tryz.prog 40 #[.string kText] w fun r w' => r = .returned (.tuple #[.agg #[.int .i64 9, .int .i64 3, .int .i64 0, .int .i64 0, .int .i64 0, .int .i64 0, .string ByteArray.empty, .int .i64 0, .string ByteArray.empty, .string ByteArray.empty], .int .i64 0]) ∧ Fr (fun _ => False) w w') := Lib.hid (fun w hg => by
    have := ParseCall_any kText w hg (by decide); rw [kText_is] at this; exact this)
  have hmk : ∀ w, (Instr.makeSlice 76 (.int .i64 16) (.int .i64 16)).run Tryz.prog w = .ok (.slice (some ⟨w.heap.size, 0, none⟩) 16 16) (w.alloc (.cells #[.int .u8 0, .int .u8 0, .int .u8 0, .int .u8 0, .int .u8 0, .int .u8 0, .int .u8 0, .int .u8 0, .int .u8 0, .int .u8 0, .int .u8 0, .int .u8 0, .int .u8 0, .int .u8 0, .int .u8 0, .int .u8 0] 5 (0, 0))) := fun _ => by kernel_rfl
  have hcv : ∀ (w : World) (g : Nat), g = w.heap.size → (convert 76 9 (.slice (some ⟨g, 0, none⟩) 16 16)).run Tryz.prog (w.alloc (.cells #[.int .u8 0, .int .u8 0, .int .u8 0, .int .u8 0, .int .u8 0, .int .u8 0, .int .u8 0, .int .u8 0, .int .u8 0, .int .u8 0, .int .u8 0, .int .u8 0, .int .u8 0, .int .u8 0, .int .u8 0, .int .u8 0] 5 (0, 0))) = .ok (.string kZeros) (w.alloc (.cells #[.int .u8 0, .int .u8 0, .int .u8 0, .int .u8 0, .int .u8 0, .int .u8 0, .int .u8 0, .int .u8 0, .int .u8 0, .int .u8 0, .int .u8 0, .int .u8 0, .int .u8 0, .int .u8 0, .int .u8 0, .int .u8 0] 5 (0, 0))) := fun w g hg => by
    subst hg
    exact run_convert_bytes_back (P := Tryz.prog) _ 76 9 5 ⟨w.heap.size, 0, none⟩ 16 [0, 0, 0, 0, 0, 0, 0, 0, 0, 0, 0, 0, 0, 0, 0, 0] Tryz.underlying76 Tryz.underlying5 Tryz.underlying9 (fun j hj => by
      have hb := heap_alloc_new w (.cells #[.int .u8 0, .int .u8 0, .int .u8 0, .int .u8 0, .int .u8 0, .int .u8 0, .int .u8 0, .int .u8 0, .int .u8 0, .int .u8 0, .int .u8 0, .int .u8 0, .int .u8 0, .int .u8 0, .int .u8 0, .int .u8 0] 5 (0, 0))
      have e : (⟨w.heap.size, 0, none⟩ : Addr).add j = ⟨w.heap.size, j, none⟩ := by unfold Addr.add; split <;> simp_all
      rw [e, cellOf hb j]
      have hj' : j < 16 := hj
      rcases (by omega : j = 0 ∨ j = 1 ∨ j = 2 ∨ j = 3 ∨ j = 4 ∨ j = 5 ∨ j = 6 ∨ j = 7 ∨ j = 8 ∨ j = 9 ∨ j = 10 ∨ j = 11 ∨ j = 12 ∨ j = 13 ∨ j = 14 ∨ j = 15) with rfl | rfl | rfl | rfl | rfl | rfl | rfl | rfl | rfl | rfl | rfl | rfl | rfl | rfl | rfl | rfl <;> rfl)
  have e1 : (kCallS.toList = (ByteArray.mk #[0, 0, 0, 1, 0, 0, 0, 0, 0, 0, 0, 2, 0, 1, 134, 160, 0, 0, 0, 2, 0, 0, 0, 3] ++ kZeros).toList) = True := by simp only [eq_iff_iff, iff_true]; kernel_rfl
  have e2 : (kReplyS.toList = [0, 0, 0, 1, 0, 0, 0, 1, 0, 0, 0, 1, 0, 0, 0, 1, 0, 0, 0, 5]) = True := by simp only [eq_iff_iff, iff_true]; kernel_rfl
  have b1 : Hid ((kCallS.toList == (ByteArray.mk #[0, 0, 0, 1, 0, 0, 0, 0, 0, 0, 0, 2, 0, 1, 134, 160, 0, 0, 0, 2, 0, 0, 0, 3] ++ kZeros).toList) = true) := Lib.hid (by kernel_rfl)
  have b2 : Hid ((kReplyS.toList == [0, 0, 0, 1, 0, 0, 0, 1, 0, 0, 0, 1, 0, 0, 0, 1, 0, 0, 0, 5]) = true) := Lib.hid (by kernel_rfl)
  have e3 : kZeros.size = 16 := by kernel_rfl
  go_enter Tryz.func11, Tryz.ntmps11
  go_wp2_with fail
  refine (hc.out _ HG.out).mono ?_
  rintro e w1 ⟨rfl, hf1⟩
  go_wp2_with fail
  refine (hr.out _ (HG.out.fr hf1 id)).mono ?_
  rintro e w2 ⟨rfl, hf2⟩
  have hf := hf1.trans hf2
  go_wp2_with fail
  refine (hp.out _ (HG.out.fr hf id)).mono ?_
  rintro e w3 ⟨rfl, hf3⟩
  have HF := Lib.hid (hf.trans hf3)
  clear hf hf1 hf2 hf3
  go_wp2
  go_ret
  exact ⟨by show Ending.returned (Value.bool (_ && _)) = _; rw [b1.out, b2.out]; rfl, (HF.out.alloc _).alloc _⟩
end Go.Proofs.YtcndifccbkekhaaGreatDoor
