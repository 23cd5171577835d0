/- callboxlaw12.MessageHeads, plain: other arguments, other results, another version. -/
import Derived.Test.YtcndifccbkekhaaGreatDoorLb
namespace Go.Proofs.YtcndifccbkekhaaGreatDoor
open Go.RowKit
set_option linter.unusedVariables false
set_option linter.unusedSimpArgs false

/-- the call whose arguments are others. -/
def callWith (c : CallM) (m : ByteArray) : CallM := { c with args := m }
/-- the reply that tells a Success of a told one's number and verifier, with these results. -/
def headM (r : ReplyM) (m : ByteArray) : ReplyM := ⟨pickM (toldM r).xid 4294967296, false, authPM (toldM r).verf, 0, 0, 0, 0, 0, m⟩
theorem pick_six : pickM 0 6 = 0 := by decide
theorem four_none : fourM ByteArray.empty = ByteArray.empty := by rfl
theorem call_with_told (c : CallM) (m : ByteArray) : callWith (fittedM c) (fourM m) = fittedM { c with args := m } := rfl
theorem call_with_may (c : CallM) (m : ByteArray) : callMayB (callWith (fittedM c) (fourM m)) = true := fitted_may { c with args := m }
theorem call_none_may (c : CallM) : callMayB (callWith (fittedM c) ByteArray.empty) = true := by
  have := call_with_may c ByteArray.empty; rwa [four_none] at this
theorem told_head (r : ReplyM) (m : ByteArray) : toldM ⟨(toldM r).xid, false, (toldM r).verf, 0, 0, 0, 0, 0, m⟩ = headM r (fourM m) := by
  unfold headM
  rw [toldM, if_neg (by simp), pick_six, if_pos rfl]
theorem head_may (r : ReplyM) (m : ByteArray) : replyMayB (headM r (fourM m)) = true := by rw [← told_head]; exact told_may _
theorem head_none_may (r : ReplyM) : replyMayB (headM r ByteArray.empty) = true := by
  have := head_may r ByteArray.empty; rwa [four_none] at this
theorem callStr_with (c : CallM) (m : ByteArray) : callStr (callWith c m) = callStr (callWith c ByteArray.empty) ++ m := by
  simp [callStr, callWith, callWords, ByteArray.append_assoc]
theorem replyStr_head (r : ReplyM) (m : ByteArray) : replyStr (headM r m) = replyStr (headM r ByteArray.empty) ++ m := by
  have e : shN (headM r m) = shN (headM r ByteArray.empty) := rfl
  have e2 : dFlag (headM r m) = dFlag (headM r ByteArray.empty) := rfl
  unfold replyStr
  rw [e, e2]
  simp [headM, ByteArray.append_assoc]
/-- what is read behind other arguments. -/
theorem parse_with (c : CallM) (m : ByteArray) : parseCallM (callStr (callWith (fittedM c) ByteArray.empty) ++ fourM m) = (callWith (fittedM c) (fourM m), 0) := by
  rw [← callStr_with]; exact parseCall_print (call_with_may c m)
theorem parse_head (r : ReplyM) (m : ByteArray) : parseReplyM (replyStr (headM r ByteArray.empty) ++ fourM m) = (headM r (fourM m), 0) := by
  rw [← replyStr_head]; exact parseReply_print (head_may r m)
theorem head_eight (c : CallM) : (callStr c).extract 0 8 = wordsStr [c.xid, 0] := by
  have e : callStr c = wordsStr [c.xid, 0] ++ (wordsStr [c.rpc] ++ (wordsStr [c.prog, c.vers, c.proc] ++ (authStr c.cred ++ (authStr c.verf ++ c.args)))) := by
    rw [callStr_eq]; simp [wordsStr, ByteArray.append_assoc]
  rw [e]
  exact ByteArray.extract_append_eq_left (by rw [wordsStr_size]; rfl)
/-- a call of another version: two numbers, whatever stands behind. -/
theorem parse_version {c : CallM} (h : callMayB c = true) (n : Int) (hn : isWordB n = true) (h2 : n ≠ 2) (more : ByteArray) :
    parseCallM ((callStr c).extract 0 8 ++ numStr n 4 ++ more) = (⟨c.xid, n, 0, 0, 0, zeroAuth, zeroAuth, ByteArray.empty⟩, 0) := by
  have e : (callStr c).extract 0 8 ++ numStr n 4 ++ more = wordsStr [c.xid, 0, n] ++ more := by
    rw [head_eight]; simp [wordsStr, ByteArray.append_assoc]
  rw [e]
  obtain ⟨a1, a2, a3, a4⟩ := r_three c.xid 0 n more (callMay_iff.1 h).1 rfl hn
  unfold parseCallM
  have hs : 12 ≤ (wordsStr [c.xid, 0, n] ++ more).size := by rw [ByteArray.size_append, wordsStr_size]; simp
  rw [if_pos ⟨hs, by rw [a3], by rw [a4]; exact h2⟩]
  unfold RSt.call3
  rw [a2, a4]
  rfl
end Go.Proofs.YtcndifccbkekhaaGreatDoor
