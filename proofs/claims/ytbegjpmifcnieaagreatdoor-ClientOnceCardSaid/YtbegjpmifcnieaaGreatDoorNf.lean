/- Messages: what is read of a text: the program's way and the document's, in plain Lean. -/
import Derived.Test.YtbegjpmifcnieaaGreatDoorMa
import Derived.Test.YtbegjpmifcnieaaGreatDoorNd
import Derived.Test.YtbegjpmifcnieaaGreatDoorNb
namespace Go.Proofs.YtbegjpmifcnieaaGreatDoor
open Go.RowKit
set_option linter.unusedVariables false
set_option linter.unusedSimpArgs false

def RSt.authS (st : RSt) : RSt := st.uint.opaqueS 400
def RSt.authV (st : RSt) : AuthM := ⟨st.uintV, st.uint.opaqueV 400⟩
def zeroAuth : AuthM := ⟨0, ByteArray.empty⟩
def zeroCall : CallM := ⟨0, 0, 0, 0, 0, zeroAuth, zeroAuth, ByteArray.empty⟩

def RSt.kind (st : RSt) : Int := st.uint.uintV
def RSt.third (st : RSt) : Int := st.uint.uint.uintV
def RSt.three (st : RSt) : RSt := st.uint.uint.uint
def RSt.call3 (st : RSt) : CallM := { zeroCall with xid := st.uintV, rpc := st.third }
def RSt.callV (st : RSt) : CallM :=
  ⟨st.uintV, st.third, st.three.uintV, st.three.uint.uintV, st.three.uint.uint.uintV, st.three.three.authV, st.three.three.authS.authV, st.three.three.authS.authS.restV⟩
def RSt.callS (st : RSt) : RSt := st.three.three.authS.authS.restS
def callGood (s : ByteArray) : Bool := decide ((RSt.mk s 0).callS.doneV = 0) && decide ((RSt.mk s 0).kind = 0) && fitsB (RSt.mk s 0).callV.args
def parseCallM (s : ByteArray) : CallM × Int :=
  if 12 ≤ s.size ∧ (RSt.mk s 0).kind = 0 ∧ (RSt.mk s 0).third ≠ 2 then ((RSt.mk s 0).call3, 0)
  else if callGood s = true then ((RSt.mk s 0).callV, 0) else (zeroCall, 121)
def rParseCallM (s : ByteArray) : CallM × Int :=
  if (RSt.mk s 0).three.e ≠ 0 ∨ (RSt.mk s 0).kind ≠ 0 then (zeroCall, 121)
  else if (RSt.mk s 0).third ≠ 2 then ((RSt.mk s 0).call3, 0)
  else if rPrintCallM (RSt.mk s 0).callV = (s, 0) then ((RSt.mk s 0).callV, 0) else (zeroCall, 121)

/-- a number of a reply, by its place. -/
def putO (x : ReplyM) (o : Nat) (v : Int) : ReplyM := if o = 6 then { x with why := v } else if o = 7 then { x with low := v } else { x with high := v }
def putsO : List Nat → RSt → ReplyM → ReplyM × RSt
  | [], st, x => (x, st)
  | o :: os, st, x => putsO os st.uint (putO x o st.uintV)
def RSt.reply3 (st : RSt) : ReplyM := { zeroReply with xid := st.uintV, denied := st.third == 1 }
def RSt.replyA (st : RSt) : ReplyM × RSt :=
  if st.third = 1 then ({ st.reply3 with reject := st.three.uintV }, st.three.uint)
  else ({ st.reply3 with verf := st.three.authV, accept := st.three.authS.uintV }, st.three.authS.uint)
def RSt.replyB (st : RSt) : ReplyM × RSt := putsO (shO st.replyA.1) st.replyA.2 st.replyA.1
def RSt.replyC (st : RSt) : ReplyM × RSt := if shR st.replyA.1 = true then ({ st.replyB.1 with results := st.replyB.2.restV }, st.replyB.2.restS) else st.replyB
def replyGood (s : ByteArray) : Bool := decide ((RSt.mk s 0).replyC.2.doneV = 0) && decide ((RSt.mk s 0).kind = 1) && decide ((RSt.mk s 0).third ≤ 1) && mayReplyB (RSt.mk s 0).replyC.1
def parseReplyM (s : ByteArray) : ReplyM × Int := if replyGood s = true then ((RSt.mk s 0).replyC.1, 0) else (zeroReply, 121)

/-- the document's way: what stands behind the three numbers. -/
def RSt.rDenied (st : RSt) : ReplyM :=
  if st.three.uintV = 1 then { st.reply3 with denied := true, reject := st.three.uintV, why := st.three.uint.uintV }
  else { st.reply3 with denied := true, reject := st.three.uintV, low := st.three.uint.uintV, high := st.three.uint.uint.uintV }
def RSt.rAccept (st : RSt) : ReplyM :=
  if st.three.authS.uintV = 2 then { st.reply3 with denied := false, verf := st.three.authV, accept := st.three.authS.uintV, low := st.three.authS.uint.uintV, high := st.three.authS.uint.uint.uintV, results := st.three.authS.three.restV }
  else { st.reply3 with denied := false, verf := st.three.authV, accept := st.three.authS.uintV, results := st.three.authS.uint.restV }
def RSt.rReply (st : RSt) : ReplyM := if st.third = 1 then st.rDenied else st.rAccept
def rParseReplyM (s : ByteArray) : ReplyM × Int :=
  if (RSt.mk s 0).kind ≠ 1 ∨ 1 < (RSt.mk s 0).third then (zeroReply, 121)
  else if rPrintReplyM (RSt.mk s 0).rReply = (s, 0) then ((RSt.mk s 0).rReply, 0) else (zeroReply, 121)
end Go.Proofs.YtbegjpmifcnieaaGreatDoor

/- Messages: the plain law of reading calls. -/
namespace Go.Proofs.YtbegjpmifcnieaaGreatDoor
open Go.RowKit
set_option linter.unusedVariables false
set_option linter.unusedSimpArgs false

theorem r_auth {a : AuthM} (h : authMayB a = true) (y : ByteArray) : (RSt.mk (authStr a ++ y) 0).authS = ⟨y, 0⟩ ∧ (RSt.mk (authStr a ++ y) 0).authV = a := by
  obtain ⟨h1, h2⟩ := authMay_iff.1 h
  have e : authStr a ++ y = numStr a.flavor 4 ++ (numStr a.body.size 4 ++ (padStr a.body ++ y)) := by simp [authStr, ByteArray.append_assoc]
  have ho := r_opq 400 a.body y rfl h2
  unfold RSt.authS RSt.authV
  rw [e, r_uint, r_uintV _ _ h1, ho.1, ho.2]
  exact ⟨rfl, rfl⟩
theorem b_auth {st : RSt} (h : st.authS.e = 0) : st.e = 0 ∧ authMayB st.authV = true ∧ st.rest = authStr st.authV ++ st.authS.rest := by
  unfold RSt.authS at h
  obtain ⟨_, h1, h2, h3⟩ := b_opq h
  obtain ⟨h4, h5, h6⟩ := b_uint h1
  refine ⟨h4, authMay_iff.2 ⟨h5, h2⟩, ?_⟩
  rw [h6, h3]
  simp [authStr, RSt.authV, RSt.authS, ByteArray.append_assoc]
theorem r_rest (y : ByteArray) : (RSt.mk y 0).restS = ⟨ByteArray.empty, 0⟩ ∧ (RSt.mk y 0).restV = y := by
  unfold RSt.restS RSt.restV RSt.takes RSt.taken RSt.drop
  rw [if_pos rfl, if_pos rfl]
  exact ⟨by simp, by simp⟩
theorem b_rest {st : RSt} (h : st.restS.doneV = 0) : st.e = 0 ∧ st.restV = st.rest := by
  have h1 := (doneV_zero.1 h).1
  unfold RSt.restS at h1
  rw [takes_e] at h1
  refine ⟨h1, ?_⟩
  unfold RSt.restV RSt.taken
  rw [if_pos h1]
  simp
theorem r_three (x k t : Int) (y : ByteArray) (hx : isWordB x = true) (hk : isWordB k = true) (ht : isWordB t = true) :
    (RSt.mk (wordsStr [x, k, t] ++ y) 0).three = ⟨y, 0⟩ ∧ (RSt.mk (wordsStr [x, k, t] ++ y) 0).uintV = x ∧ (RSt.mk (wordsStr [x, k, t] ++ y) 0).kind = k ∧ (RSt.mk (wordsStr [x, k, t] ++ y) 0).third = t := by
  have e : wordsStr [x, k, t] ++ y = numStr x 4 ++ (numStr k 4 ++ (numStr t 4 ++ y)) := by simp [wordsStr, ByteArray.append_assoc]
  unfold RSt.three RSt.kind RSt.third
  rw [e]
  simp only [r_uint, r_uintV _ _ hx, r_uintV _ _ hk, r_uintV _ _ ht, and_self]
theorem b_three {st : RSt} (h : st.three.e = 0) : st.e = 0 ∧ (isWordB st.uintV = true ∧ isWordB st.kind = true ∧ isWordB st.third = true) ∧ st.rest = wordsStr [st.uintV, st.kind, st.third] ++ st.three.rest := by
  unfold RSt.three at h
  obtain ⟨h1, h2, h3⟩ := b_uint h
  obtain ⟨h4, h5, h6⟩ := b_uint h1
  obtain ⟨h7, h8, h9⟩ := b_uint h4
  refine ⟨h7, ⟨h8, h5, h2⟩, ?_⟩
  rw [h9, h6, h3]
  simp [wordsStr, RSt.kind, RSt.third, RSt.three, ByteArray.append_assoc]
theorem uint_good {st : RSt} (h : st.e = 0) (hs : 4 ≤ st.rest.size) : st.uint.e = 0 ∧ st.uint.rest.size = st.rest.size - 4 := by
  have e : st.uint = st.drop 4 := by
    unfold RSt.uint RSt.peeked
    rw [if_neg (by omega)]
    unfold RSt.takes
    rw [if_pos h]
  rw [e]
  exact ⟨h, by simp [RSt.drop]⟩
theorem three_good {st : RSt} (h : st.e = 0) (hs : 12 ≤ st.rest.size) : st.three.e = 0 := by
  obtain ⟨h1, h2⟩ := uint_good h (by omega)
  obtain ⟨h3, h4⟩ := uint_good h1 (by omega)
  exact (uint_good h3 (by omega)).1

theorem callStr_eq (c : CallM) : callStr c = wordsStr [c.xid, 0, c.rpc] ++ (wordsStr [c.prog, c.vers, c.proc] ++ (authStr c.cred ++ (authStr c.verf ++ c.args))) := by
  simp [callStr, callWords, wordsStr, ByteArray.append_assoc]
theorem callS_print {c : CallM} (h : callMayB c = true) : (RSt.mk (callStr c) 0).callV = c ∧ (RSt.mk (callStr c) 0).callS = ⟨ByteArray.empty, 0⟩ ∧ (RSt.mk (callStr c) 0).kind = 0 ∧ (RSt.mk (callStr c) 0).third = 2 := by
  obtain ⟨h1, h2, h3, h4, h5, h6, h7, h8⟩ := callMay_iff.1 h
  rw [callStr_eq]
  obtain ⟨a1, a2, a3, a4⟩ := r_three c.xid 0 c.rpc (wordsStr [c.prog, c.vers, c.proc] ++ (authStr c.cred ++ (authStr c.verf ++ c.args))) h1 rfl (by rw [h8]; rfl)
  obtain ⟨b1, b2, b3, b4⟩ := r_three c.prog c.vers c.proc (authStr c.cred ++ (authStr c.verf ++ c.args)) h2 h3 h4
  unfold RSt.kind at b3
  unfold RSt.third at b4
  obtain ⟨c1, c2⟩ := r_auth h5 (authStr c.verf ++ c.args)
  obtain ⟨d1, d2⟩ := r_auth h6 c.args
  obtain ⟨f1, f2⟩ := r_rest c.args
  unfold RSt.callV RSt.callS
  rw [a1, a2, a3, a4, b1, b2, b3, b4, c1, c2, d1, d2, f1, f2]
  exact ⟨rfl, rfl, rfl, h8⟩
theorem callGood_print {c : CallM} (h : callMayB c = true) : callGood (callStr c) = true := by
  obtain ⟨h1, h2, h3, _⟩ := callS_print h
  unfold callGood
  rw [h1, h2, h3, (callMay_iff.1 h).2.2.2.2.2.2.1]
  rfl
theorem parseCall_print {c : CallM} (h : callMayB c = true) : parseCallM (callStr c) = (c, 0) := by
  obtain ⟨h1, h2, h3, h4⟩ := callS_print h
  unfold parseCallM
  rw [callGood_print h, h1, h4, if_neg (by simp), if_pos rfl]
theorem callGood_iff {s : ByteArray} : callGood s = true ↔ (RSt.mk s 0).callS.doneV = 0 ∧ (RSt.mk s 0).kind = 0 ∧ fitsB (RSt.mk s 0).callV.args = true := by simp [callGood, and_assoc]
theorem callGood_yes {s : ByteArray} (h : callGood s = true) : (RSt.mk s 0).three.e = 0 ∧ ((RSt.mk s 0).third = 2 → callMayB (RSt.mk s 0).callV = true ∧ s = callStr (RSt.mk s 0).callV) := by
  obtain ⟨h1, h2, h3⟩ := callGood_iff.1 h
  unfold RSt.callS at h1
  obtain ⟨e1, v1⟩ := b_rest h1
  obtain ⟨e2, m2, s2⟩ := b_auth e1
  obtain ⟨e3, m3, s3⟩ := b_auth e2
  obtain ⟨e4, m4, s4⟩ := b_three e3
  obtain ⟨e5, m5, s5⟩ := b_three e4
  refine ⟨e4, fun h8 => ⟨callMay_iff.2 ⟨m5.1, m4.1, m4.2.1, m4.2.2, m3, m2, h3, h8⟩, ?_⟩⟩
  rw [callStr_eq]
  have e : (RSt.mk s 0).callV.args = (RSt.mk s 0).three.three.authS.authS.rest := v1
  rw [e]
  show s = wordsStr [(RSt.mk s 0).uintV, 0, (RSt.mk s 0).third] ++ (wordsStr [(RSt.mk s 0).three.uintV, (RSt.mk s 0).three.kind, (RSt.mk s 0).three.third] ++ (authStr (RSt.mk s 0).three.three.authV ++ (authStr (RSt.mk s 0).three.three.authS.authV ++ (RSt.mk s 0).three.three.authS.authS.rest)))
  rw [← s2, ← s3, ← s4]
  rw [h2] at s5
  exact s5
theorem print_parseCall {s : ByteArray} (h : callGood s = true) (h2 : (RSt.mk s 0).third = 2) : rPrintCallM (RSt.mk s 0).callV = (s, 0) := by
  obtain ⟨h3, h4⟩ := (callGood_yes h).2 h2
  rw [(printCall_yes h3).2, ← h4]
theorem parseCall_same (s : ByteArray) : rParseCallM s = parseCallM s := by
  unfold rParseCallM parseCallM
  by_cases h3 : (RSt.mk s 0).three.e = 0
  · have hs : 12 ≤ s.size := by
      have := (b_three h3).2.2
      have h := congrArg ByteArray.size this
      rw [ByteArray.size_append, wordsStr_size] at h
      simp at h
      omega
    by_cases hk : (RSt.mk s 0).kind = 0
    · rw [if_neg (fun h => h.elim (fun h => h h3) (fun h => h hk))]
      by_cases h2 : (RSt.mk s 0).third = 2
      · have c2 : ¬ ((RSt.mk s 0).third ≠ 2) := fun h => h h2
        have c12 : ¬ (12 ≤ s.size ∧ (RSt.mk s 0).kind = 0 ∧ (RSt.mk s 0).third ≠ 2) := fun h => h.2.2 h2
        rw [if_neg c2, if_neg c12]
        by_cases hg : callGood s = true
        · rw [if_pos hg, if_pos (print_parseCall hg h2)]
        · rw [if_neg hg, if_neg]
          intro hp
          have hm : callMayB (RSt.mk s 0).callV = true := by
            refine Classical.byContradiction fun hn => ?_
            rw [(printCall_no hn).2] at hp
            exact absurd (show (120 : Int) = 0 from congrArg Prod.snd hp) (by decide)
          rw [(printCall_yes hm).2] at hp
          have := callGood_print hm
          rw [show callStr (RSt.mk s 0).callV = s from congrArg Prod.fst hp] at this
          exact hg this
      · rw [if_pos h2, if_pos ⟨hs, hk, h2⟩]
    · rw [if_pos (.inr hk), if_neg (fun h => hk h.2.1), if_neg (fun h => hk (callGood_iff.1 h).2.1)]
  · rw [if_pos (.inl h3), if_neg (fun h => h3 (three_good rfl h.1)), if_neg (fun h => h3 (callGood_yes h).1)]
end Go.Proofs.YtbegjpmifcnieaaGreatDoor

/- Messages: the plain law of printing a reply. -/
namespace Go.Proofs.YtbegjpmifcnieaaGreatDoor
open Go.RowKit
set_option linter.unusedVariables false
set_option linter.unusedSimpArgs false

/-- the five kinds of replies that may be, as far as layer 2 does not tell. -/
def Shaped (r : ReplyM) : Prop :=
  (∃ x l h, r = ⟨x, true, ⟨0, ByteArray.empty⟩, 0, 0, 0, l, h, ByteArray.empty⟩) ∨
  (∃ x y, (0 ≤ y ∧ y ≤ 14) ∧ r = ⟨x, true, ⟨0, ByteArray.empty⟩, 0, 1, y, 0, 0, ByteArray.empty⟩) ∨
  (∃ x a s, fitsB s = true ∧ r = ⟨x, false, a, 0, 0, 0, 0, 0, s⟩) ∨
  (∃ x a l h, r = ⟨x, false, a, 2, 0, 0, l, h, ByteArray.empty⟩) ∨
  (∃ x a k, (k = 1 ∨ k = 3 ∨ k = 4 ∨ k = 5) ∧ r = ⟨x, false, a, k, 0, 0, 0, 0, ByteArray.empty⟩)
def Worded (r : ReplyM) : Prop := isWordB r.xid = true ∧ authMayB r.verf = true ∧ isWordB r.low = true ∧ isWordB r.high = true

theorem mayReply_unf {r : ReplyM} : mayReplyB r = true ↔ shOk r = true ∧ bareM r = r ∧ 0 ≤ r.why ∧ r.why ≤ 14 ∧ fitsB r.results = true := by
  simp [mayReplyB, sameB_iff, and_assoc]
theorem mayReply_iff {r : ReplyM} : mayReplyB r = true ↔ Shaped r := by
  rw [mayReply_unf]
  constructor
  · obtain ⟨x, d, a, c, j, y, l, h, s⟩ := r
    rintro ⟨h1, h2, h3, h4, h5⟩
    cases d with
    | true =>
      have hj : j = 0 ∨ j = 1 := by simpa [shOk] using h1
      rcases hj with rfl | rfl
      · exact .inl ⟨x, l, h, h2.symm⟩
      · exact .inr (.inl ⟨x, y, ⟨h3, h4⟩, h2.symm⟩)
    | false =>
      have hc : 0 ≤ c ∧ c ≤ 5 := by simpa [shOk] using h1
      by_cases c0 : c = 0
      · subst c0
        have e : bareM ⟨x, false, a, 0, j, y, l, h, s⟩ = ⟨x, false, a, 0, 0, 0, 0, 0, s⟩ := rfl
        exact .inr (.inr (.inl ⟨x, a, s, h5, h2.symm.trans e⟩))
      · by_cases c2 : c = 2
        · subst c2
          exact .inr (.inr (.inr (.inl ⟨x, a, l, h, h2.symm⟩)))
        · refine .inr (.inr (.inr (.inr ⟨x, a, c, by omega, ?_⟩)))
          rw [← h2]
          rcases (by omega : c = 1 ∨ c = 3 ∨ c = 4 ∨ c = 5) with rfl | rfl | rfl | rfl <;> rfl
  · rintro (⟨x, l, h, rfl⟩ | ⟨x, y, ⟨h3, h4⟩, rfl⟩ | ⟨x, a, s, hs, rfl⟩ | ⟨x, a, l, h, rfl⟩ | ⟨x, a, k, hk, rfl⟩)
    · exact ⟨rfl, rfl, Int.le_refl 0, show (0 : Int) ≤ 14 by decide, rfl⟩
    · exact ⟨rfl, rfl, h3, h4, rfl⟩
    · exact ⟨rfl, rfl, Int.le_refl 0, show (0 : Int) ≤ 14 by decide, hs⟩
    · exact ⟨rfl, rfl, Int.le_refl 0, show (0 : Int) ≤ 14 by decide, rfl⟩
    · rcases hk with rfl | rfl | rfl | rfl <;> exact ⟨rfl, rfl, Int.le_refl 0, show (0 : Int) ≤ 14 by decide, rfl⟩
theorem replyMay_iff {r : ReplyM} : replyMayB r = true ↔ Shaped r ∧ Worded r := by
  have w0 : isWordB 0 = true := rfl
  have a0 : authMayB ⟨0, ByteArray.empty⟩ = true := rfl
  have f0 : fitsB ByteArray.empty = true := rfl
  constructor
  · obtain ⟨x, d, ⟨f, b⟩, c, j, y, l, h, s⟩ := r
    intro hm
    unfold replyMayB mayR noVerf at hm
    cases d with
    | true =>
      simp only [if_true, Bool.and_eq_true, beq_iff_eq, empty_iff] at hm
      obtain ⟨hx, ⟨⟨⟨hf, hb⟩, hc⟩, hs⟩, hk⟩ := hm
      subst hf hb hc hs
      by_cases j0 : j = 0
      · subst j0
        simp only [if_true, Bool.and_eq_true, beq_iff_eq] at hk
        obtain ⟨⟨hl, hh⟩, hy⟩ := hk
        subst hy
        exact ⟨.inl ⟨x, l, h, rfl⟩, hx, a0, hl, hh⟩
      · rw [if_neg j0] at hk
        by_cases j1 : j = 1
        · subst j1
          simp only [if_true, Bool.and_eq_true, beq_iff_eq, decide_eq_true_eq] at hk
          obtain ⟨⟨⟨hl, hh⟩, h3⟩, h4⟩ := hk
          subst hl hh
          exact ⟨.inr (.inl ⟨x, y, ⟨h3, h4⟩, rfl⟩), hx, a0, w0, w0⟩
        · rw [if_neg j1] at hk; cases hk
    | false =>
      simp only [Bool.false_eq_true, if_false, Bool.and_eq_true, beq_iff_eq, decide_eq_true_eq] at hm
      obtain ⟨hx, ⟨⟨⟨⟨ha, hj⟩, hy⟩, h3⟩, h4⟩, hk⟩ := hm
      subst hj hy
      by_cases c0 : c = 0
      · subst c0
        simp only [if_true, Bool.and_eq_true, beq_iff_eq] at hk
        obtain ⟨hs, hl, hh⟩ := hk
        subst hl hh
        exact ⟨.inr (.inr (.inl ⟨x, _, s, hs, rfl⟩)), hx, ha, w0, w0⟩
      · rw [if_neg c0] at hk
        by_cases c2 : c = 2
        · subst c2
          simp only [if_true, Bool.and_eq_true, empty_iff] at hk
          obtain ⟨⟨hl, hh⟩, hs⟩ := hk
          subst hs
          exact ⟨.inr (.inr (.inr (.inl ⟨x, _, l, h, rfl⟩))), hx, ha, hl, hh⟩
        · rw [if_neg c2] at hk
          simp only [Bool.and_eq_true, beq_iff_eq, empty_iff] at hk
          obtain ⟨⟨hl, hh⟩, hs⟩ := hk
          subst hl hh hs
          exact ⟨.inr (.inr (.inr (.inr ⟨x, _, c, by omega, rfl⟩))), hx, ha, w0, w0⟩
  · rintro ⟨hs, hx, ha, hl, hh⟩
    unfold replyMayB
    rw [hx, ha, hl, hh]
    rcases hs with ⟨x, l, h, rfl⟩ | ⟨x, y, ⟨h3, h4⟩, rfl⟩ | ⟨x, a, s, hs, rfl⟩ | ⟨x, a, l, h, rfl⟩ | ⟨x, a, k, hk, rfl⟩
    · simp [mayR, noVerf]
    · simp [mayR, noVerf, h3, h4]
    · simp [mayR, hs]
    · simp [mayR]
    · rcases hk with rfl | rfl | rfl | rfl <;> simp [mayR]

def dFlag (r : ReplyM) : Int := if r.denied = true then 1 else 0
def replyStr (r : ReplyM) : ByteArray := wordsStr [r.xid, 1, dFlag r] ++ ((if r.denied = true then wordsStr [r.reject] else authStr r.verf ++ wordsStr [r.accept]) ++ (wordsStr (shN r) ++ r.results))

theorem uints_append (st : WSt) (a b : List Int) : st.uints (a ++ b) = (st.uints a).uints b := by unfold WSt.uints; rw [List.foldl_append]
theorem word_k {k : Int} (h : k = 1 ∨ k = 3 ∨ k = 4 ∨ k = 5) : isWordB k = true := by rcases h with rfl | rfl | rfl | rfl <;> rfl
theorem word_y {y : Int} (h : 0 ≤ y ∧ y ≤ 14) : isWordB y = true := isWordB_iff.2 (by omega)

theorem w_words (l : List Int) (hl : ∀ n ∈ l, isWordB n = true) (hn : l.length ≤ 100) : (newW 4096).uints l = ⟨wordsStr l, 4096, 0⟩ := by
  rw [w_uints l rfl hl (by simp [newW]; omega)]
  simp [newW]
theorem w_head (x : Int) (a : AuthM) (l : List Int) (hx : isWordB x = true) (ha : authMayB a = true) (hl : ∀ n ∈ l, isWordB n = true) (hn : l.length ≤ 100) :
    (((newW 4096).uints [x, 1, 0]).auth a).uints l = ⟨wordsStr [x, 1, 0] ++ (authStr a ++ wordsStr l), 4096, 0⟩ := by
  have k1 := authStr_size ha
  rw [w_words [x, 1, 0] (by simp; exact ⟨hx, rfl, rfl⟩) (by simp)]
  rw [w_auth a rfl ha (by simp only [wordsStr_size]; simp)]
  rw [w_uints l rfl hl (by simp only [ByteArray.size_append, wordsStr_size]; simp; omega)]
  simp [ByteArray.append_assoc]
theorem printReply_yes {r : ReplyM} (hr : replyMayB r = true) : printReplyM r = (replyStr r, 0) ∧ rPrintReplyM r = (replyStr r, 0) := by
  have hm := (replyMay_iff.1 hr).1
  have hM := mayReply_iff.2 hm
  unfold printReplyM rPrintReplyM
  rw [if_pos hr, hM]
  obtain ⟨hx, ha, hl, hh⟩ := (replyMay_iff.1 hr).2
  rcases hm with ⟨x, l, h, rfl⟩ | ⟨x, y, hy, rfl⟩ | ⟨x, a, s, hs, rfl⟩ | ⟨x, a, l, h, rfl⟩ | ⟨x, a, k, hk, rfl⟩
  · have e : (newW 4096).uints [x, 1, 1, 0, l, h] = ⟨wordsStr [x, 1, 1, 0, l, h], 4096, 0⟩ := w_words _ (by simp; exact ⟨hx, rfl, rfl, hl, hh⟩) (by simp)
    have e2 : (((newW 4096).uints [x, 1, 1]).uints [0]).uints [l, h] = (newW 4096).uints [x, 1, 1, 0, l, h] := rfl
    refine ⟨?_, ?_⟩
    · show doneM ((((newW 4096).uints [x, 1, 1]).uints [0]).uints [l, h]) true = _
      rw [e2, e]
      simp [doneM, replyStr, dFlag, shN, shO, getO, wordsStr, ByteArray.append_assoc]
    · rw [if_pos rfl]
      show (((newW 4096).uints [x, 1, 1, 0, l, h]).body, ((newW 4096).uints [x, 1, 1, 0, l, h]).e) = _
      rw [e]
      simp [WSt.body, replyStr, dFlag, shN, shO, getO, wordsStr, ByteArray.append_assoc]
  · have e : (newW 4096).uints [x, 1, 1, 1, y] = ⟨wordsStr [x, 1, 1, 1, y], 4096, 0⟩ := w_words _ (by simp; exact ⟨hx, rfl, word_y hy⟩) (by simp)
    have e2 : (((newW 4096).uints [x, 1, 1]).uints [1]).uints [y] = (newW 4096).uints [x, 1, 1, 1, y] := rfl
    refine ⟨?_, ?_⟩
    · show doneM ((((newW 4096).uints [x, 1, 1]).uints [1]).uints [y]) true = _
      rw [e2, e]
      simp [doneM, replyStr, dFlag, shN, shO, getO, wordsStr, ByteArray.append_assoc]
    · rw [if_pos rfl]
      show (((newW 4096).uints [x, 1, 1, 1, y]).body, ((newW 4096).uints [x, 1, 1, 1, y]).e) = _
      rw [e]
      simp [WSt.body, replyStr, dFlag, shN, shO, getO, wordsStr, ByteArray.append_assoc]
  · have ha : authMayB a = true := ha
    have e := w_head x a [0] hx ha (by simp; rfl) (by simp)
    have k1 := authStr_size ha
    have k2 := fits_iff.1 hs
    refine ⟨?_, ?_⟩
    · show doneM (((((newW 4096).uints [x, 1, 0]).auth a).uints [0]).raw s) true = _
      rw [e, w_raw s rfl k2.2 (by simp only [ByteArray.size_append, wordsStr_size]; simp; omega)]
      simp [doneM, replyStr, dFlag, shN, shO, wordsStr, ByteArray.append_assoc]
    · rw [if_neg (by simp)]
      show (((((newW 4096).uints [x, 1, 0]).auth a).uints [0]).body ++ s, (0 : Int)) = _
      rw [e]
      simp [WSt.body, replyStr, dFlag, shN, shO, wordsStr, ByteArray.append_assoc]
  · have e := w_head x a [2, l, h] hx ha (by simp; exact ⟨rfl, hl, hh⟩) (by simp)
    refine ⟨?_, ?_⟩
    · show doneM ((((newW 4096).uints [x, 1, 0]).auth a).uints [2, l, h]) true = _
      rw [e]
      simp [doneM, replyStr, dFlag, shN, shO, getO, wordsStr, ByteArray.append_assoc]
    · rw [if_neg (by simp)]
      show (((((newW 4096).uints [x, 1, 0]).auth a).uints [2, l, h]).body ++ ByteArray.empty, (0 : Int)) = _
      rw [e]
      simp [WSt.body, replyStr, dFlag, shN, shO, getO, wordsStr, ByteArray.append_assoc]
  · have e := w_head x a [k] hx ha (by simp; exact word_k hk) (by simp)
    have eV : shV ⟨x, false, a, k, 0, 0, 0, 0, ByteArray.empty⟩ = true := by rcases hk with rfl | rfl | rfl | rfl <;> rfl
    have eR : shR ⟨x, false, a, k, 0, 0, 0, 0, ByteArray.empty⟩ = false := by rcases hk with rfl | rfl | rfl | rfl <;> rfl
    have eN : shN ⟨x, false, a, k, 0, 0, 0, 0, ByteArray.empty⟩ = [] := by rcases hk with rfl | rfl | rfl | rfl <;> rfl
    have eA : (newW 4096).acceptW ⟨x, false, a, k, 0, 0, 0, 0, ByteArray.empty⟩ = (((newW 4096).uints [x, 1, 0]).auth a).uints [k] := by rcases hk with rfl | rfl | rfl | rfl <;> rfl
    refine ⟨?_, ?_⟩
    · show doneM (if shR _ = true then _ else (if shV _ = true then (((newW 4096).uints [x, 1, 0]).auth a).uints [k] else _).uints (shN _)) true = _
      rw [eV, eR, eN, if_pos rfl, if_neg (by simp)]
      show doneM ((((newW 4096).uints [x, 1, 0]).auth a).uints [k]) true = _
      rw [e]
      simp [doneM, replyStr, dFlag, eN, wordsStr, ByteArray.append_assoc]
    · rw [if_neg (by simp), eA]
      rw [e]
      simp [WSt.body, replyStr, dFlag, eN, wordsStr, ByteArray.append_assoc]
theorem printReply_no {r : ReplyM} (hr : ¬ replyMayB r = true) : printReplyM r = (ByteArray.empty, 120) ∧ rPrintReplyM r = (ByteArray.empty, 120) := by
  refine ⟨?_, by unfold rPrintReplyM; rw [if_neg hr]⟩
  unfold printReplyM doneM
  refine if_neg ?_
  rintro ⟨h1, h2⟩
  have hm := mayReply_iff.1 h2
  refine hr (replyMay_iff.2 ⟨hm, ?_⟩)
  have key : ∀ {st : WSt} {p : Prop}, st.e = 0 → (¬ p → st.e ≠ 0) → p := fun hz hp => Classical.byContradiction fun hn => hp hn hz
  rcases hm with ⟨x, l, h, rfl⟩ | ⟨x, y, hy, rfl⟩ | ⟨x, a, s, hs, rfl⟩ | ⟨x, a, l, h, rfl⟩ | ⟨x, a, k, hk, rfl⟩
  · have h3 : ((newW 4096).uints [x, 1, 1, 0, l, h]).e = 0 := h1
    have hw : ∀ n ∈ [x, 1, 1, 0, l, h], isWordB n = true := fun n hn => key h3 (fun hb => uints_bad _ hn hb)
    exact ⟨hw _ (by simp), rfl, hw _ (by simp), hw _ (by simp)⟩
  · have h3 : ((newW 4096).uints [x, 1, 1, 1, y]).e = 0 := h1
    have hw : ∀ n ∈ [x, 1, 1, 1, y], isWordB n = true := fun n hn => key h3 (fun hb => uints_bad _ hn hb)
    exact ⟨hw _ (by simp), rfl, rfl, rfl⟩
  · have h3 : (((((newW 4096).uints [x, 1, 0]).auth a).uints [0]).raw s).e = 0 := h1
    have hw : ∀ n ∈ [x, 1, 0], isWordB n = true := fun n hn => key h3 (fun hb => raw_e (uints_e _ (auth_e (uints_bad _ hn hb))))
    exact ⟨hw _ (by simp), key h3 (fun hb => raw_e (uints_e _ (auth_bad hb))), rfl, rfl⟩
  · have h3 : ((((newW 4096).uints [x, 1, 0]).auth a).uints [2, l, h]).e = 0 := h1
    have hw : ∀ n ∈ [x, 1, 0], isWordB n = true := fun n hn => key h3 (fun hb => uints_e _ (auth_e (uints_bad _ hn hb)))
    have hv : ∀ n ∈ [2, l, h], isWordB n = true := fun n hn => key h3 (fun hb => uints_bad _ hn hb)
    exact ⟨hw _ (by simp), key h3 (fun hb => uints_e _ (auth_bad hb)), hv _ (by simp), hv _ (by simp)⟩
  · have h3 : ((((newW 4096).uints [x, 1, 0]).auth a).uints [k]).e = 0 := by rcases hk with rfl | rfl | rfl | rfl <;> exact h1
    have hw : ∀ n ∈ [x, 1, 0], isWordB n = true := fun n hn => key h3 (fun hb => uints_e _ (auth_e (uints_bad _ hn hb)))
    exact ⟨hw _ (by simp), key h3 (fun hb => uints_e _ (auth_bad hb)), rfl, rfl⟩
theorem printReply_same (r : ReplyM) : rPrintReplyM r = printReplyM r := by
  by_cases h : replyMayB r = true
  · rw [(printReply_yes h).1, (printReply_yes h).2]
  · rw [(printReply_no h).1, (printReply_no h).2]
end Go.Proofs.YtbegjpmifcnieaaGreatDoor

/- Messages: the plain law of reading replies. -/
namespace Go.Proofs.YtbegjpmifcnieaaGreatDoor
open Go.RowKit
set_option linter.unusedVariables false
set_option linter.unusedSimpArgs false

section
variable {st : RSt}
theorem replyA_d (h3 : st.third = 1) : st.replyA = (⟨st.uintV, true, zeroAuth, 0, st.three.uintV, 0, 0, 0, ByteArray.empty⟩, st.three.uint) := by
  unfold RSt.replyA RSt.reply3
  rw [if_pos h3, h3]; rfl
theorem replyA_a (h3 : ¬ st.third = 1) : st.replyA = (⟨st.uintV, false, st.three.authV, st.three.authS.uintV, 0, 0, 0, 0, ByteArray.empty⟩, st.three.authS.uint) := by
  unfold RSt.replyA RSt.reply3
  rw [if_neg h3, show (st.third == 1) = false from beq_eq_false_iff_ne.2 h3]; rfl
theorem replyC_d0 (h3 : st.third = 1) (hj : st.three.uintV = 0) : st.replyC = (⟨st.uintV, true, zeroAuth, 0, 0, 0, st.three.kind, st.three.third, ByteArray.empty⟩, st.three.three) := by
  unfold RSt.replyC RSt.replyB
  rw [replyA_d h3, hj]; rfl
theorem replyC_d1 (h3 : st.third = 1) (hj : st.three.uintV = 1) : st.replyC = (⟨st.uintV, true, zeroAuth, 0, 1, st.three.kind, 0, 0, ByteArray.empty⟩, st.three.uint.uint) := by
  unfold RSt.replyC RSt.replyB
  rw [replyA_d h3, hj]; rfl
theorem replyC_dn (h3 : st.third = 1) (h0 : ¬ st.three.uintV = 0) (h1 : ¬ st.three.uintV = 1) : st.replyC = (⟨st.uintV, true, zeroAuth, 0, st.three.uintV, 0, 0, 0, ByteArray.empty⟩, st.three.uint) := by
  unfold RSt.replyC RSt.replyB
  rw [replyA_d h3]
  simp [shO, shR, putsO, h0, h1]
theorem replyC_a0 (h3 : ¬ st.third = 1) (hc : st.three.authS.uintV = 0) : st.replyC = (⟨st.uintV, false, st.three.authV, 0, 0, 0, 0, 0, st.three.authS.uint.restV⟩, st.three.authS.uint.restS) := by
  unfold RSt.replyC RSt.replyB
  rw [replyA_a h3, hc]; rfl
theorem replyC_a2 (h3 : ¬ st.third = 1) (hc : st.three.authS.uintV = 2) : st.replyC = (⟨st.uintV, false, st.three.authV, 2, 0, 0, st.three.authS.kind, st.three.authS.third, ByteArray.empty⟩, st.three.authS.three) := by
  unfold RSt.replyC RSt.replyB
  rw [replyA_a h3, hc]; rfl
theorem replyC_an (h3 : ¬ st.third = 1) (h0 : ¬ st.three.authS.uintV = 0) (h2 : ¬ st.three.authS.uintV = 2) : st.replyC = (⟨st.uintV, false, st.three.authV, st.three.authS.uintV, 0, 0, 0, 0, ByteArray.empty⟩, st.three.authS.uint) := by
  unfold RSt.replyC RSt.replyB
  rw [replyA_a h3]
  simp [shO, shR, putsO, h0, h2]
theorem rReply_d1 (h3 : st.third = 1) (hj : st.three.uintV = 1) : st.rReply = ⟨st.uintV, true, zeroAuth, 0, 1, st.three.kind, 0, 0, ByteArray.empty⟩ := by
  unfold RSt.rReply RSt.rDenied
  rw [if_pos h3, if_pos hj, hj]; rfl
theorem rReply_dn (h3 : st.third = 1) (hj : ¬ st.three.uintV = 1) : st.rReply = ⟨st.uintV, true, zeroAuth, 0, st.three.uintV, 0, st.three.kind, st.three.third, ByteArray.empty⟩ := by
  unfold RSt.rReply RSt.rDenied
  rw [if_pos h3, if_neg hj]; rfl
theorem rReply_a2 (h3 : ¬ st.third = 1) (hc : st.three.authS.uintV = 2) : st.rReply = ⟨st.uintV, false, st.three.authV, 2, 0, 0, st.three.authS.kind, st.three.authS.third, st.three.authS.three.restV⟩ := by
  unfold RSt.rReply RSt.rAccept
  rw [if_neg h3, if_pos hc, hc]; rfl
theorem rReply_an (h3 : ¬ st.third = 1) (hc : ¬ st.three.authS.uintV = 2) : st.rReply = ⟨st.uintV, false, st.three.authV, st.three.authS.uintV, 0, 0, 0, 0, st.three.authS.uint.restV⟩ := by
  unfold RSt.rReply RSt.rAccept
  rw [if_neg h3, if_neg hc]; rfl
end

theorem r_one (n : Int) (y : ByteArray) (h : isWordB n = true) : (RSt.mk (wordsStr [n] ++ y) 0).uint = ⟨y, 0⟩ ∧ (RSt.mk (wordsStr [n] ++ y) 0).uintV = n := by
  have e : wordsStr [n] ++ y = numStr n 4 ++ y := by simp [wordsStr]
  rw [e, r_uint, r_uintV _ _ h]
  exact ⟨rfl, rfl⟩
theorem replyS_print {r : ReplyM} (hr : replyMayB r = true) : (RSt.mk (replyStr r) 0).replyC = (r, ⟨ByteArray.empty, 0⟩) ∧ (RSt.mk (replyStr r) 0).kind = 1 ∧ (RSt.mk (replyStr r) 0).third = dFlag r ∧ (RSt.mk (replyStr r) 0).rReply = r := by
  obtain ⟨hm, hx, ha, hl, hh⟩ := replyMay_iff.1 hr
  have re := r_rest ByteArray.empty
  rcases hm with ⟨x, l, h, rfl⟩ | ⟨x, y, hy, rfl⟩ | ⟨x, a, s, hs, rfl⟩ | ⟨x, a, l, h, rfl⟩ | ⟨x, a, k, hk, rfl⟩
  · have e : replyStr ⟨x, true, ⟨0, ByteArray.empty⟩, 0, 0, 0, l, h, ByteArray.empty⟩ = wordsStr [x, 1, 1] ++ (wordsStr [0, l, h] ++ ByteArray.empty) := by
      simp [replyStr, dFlag, shN, shO, getO, wordsStr, ByteArray.append_assoc]
    rw [e]
    obtain ⟨a1, a2, a3, a4⟩ := r_three x 1 1 (wordsStr [0, l, h] ++ ByteArray.empty) hx rfl rfl
    obtain ⟨b1, b2, b3, b4⟩ := r_three 0 l h ByteArray.empty rfl hl hh
    rw [replyC_d0 a4 (by rw [a1]; exact b2), rReply_dn a4 (by rw [a1, b2]; decide), a1, a2, a3, a4, b1, b2, b3, b4]
    exact ⟨rfl, rfl, rfl, rfl⟩
  · have e : replyStr ⟨x, true, ⟨0, ByteArray.empty⟩, 0, 1, y, 0, 0, ByteArray.empty⟩ = wordsStr [x, 1, 1] ++ (wordsStr [1] ++ (wordsStr [y] ++ ByteArray.empty)) := by
      simp [replyStr, dFlag, shN, shO, getO, wordsStr, ByteArray.append_assoc]
    rw [e]
    obtain ⟨a1, a2, a3, a4⟩ := r_three x 1 1 (wordsStr [1] ++ (wordsStr [y] ++ ByteArray.empty)) hx rfl rfl
    obtain ⟨b1, b2⟩ := r_one 1 (wordsStr [y] ++ ByteArray.empty) rfl
    obtain ⟨c1, c2⟩ := r_one y ByteArray.empty (word_y hy)
    rw [replyC_d1 a4 (by rw [a1]; exact b2), rReply_d1 a4 (by rw [a1]; exact b2), a1, a2, a3, a4, b1, c1]
    unfold RSt.kind
    rw [b1, c2]
    exact ⟨rfl, rfl, rfl, rfl⟩
  · have e : replyStr ⟨x, false, a, 0, 0, 0, 0, 0, s⟩ = wordsStr [x, 1, 0] ++ (authStr a ++ (wordsStr [0] ++ s)) := by
      simp [replyStr, dFlag, shN, shO, wordsStr, ByteArray.append_assoc]
    rw [e]
    obtain ⟨a1, a2, a3, a4⟩ := r_three x 1 0 (authStr a ++ (wordsStr [0] ++ s)) hx rfl rfl
    obtain ⟨b1, b2⟩ := r_auth ha (wordsStr [0] ++ s)
    obtain ⟨c1, c2⟩ := r_one 0 s rfl
    obtain ⟨f1, f2⟩ := r_rest s
    have n3 : ¬ (RSt.mk (wordsStr [x, 1, 0] ++ (authStr a ++ (wordsStr [0] ++ s))) 0).third = 1 := by rw [a4]; decide
    rw [replyC_a0 n3 (by rw [a1, b1]; exact c2), rReply_an n3 (by rw [a1, b1, c2]; decide), a1, a2, a3, a4, b1, b2, c1, c2, f1, f2]
    exact ⟨rfl, rfl, rfl, rfl⟩
  · have e : replyStr ⟨x, false, a, 2, 0, 0, l, h, ByteArray.empty⟩ = wordsStr [x, 1, 0] ++ (authStr a ++ (wordsStr [2, l, h] ++ ByteArray.empty)) := by
      simp [replyStr, dFlag, shN, shO, getO, wordsStr, ByteArray.append_assoc]
    rw [e]
    obtain ⟨a1, a2, a3, a4⟩ := r_three x 1 0 (authStr a ++ (wordsStr [2, l, h] ++ ByteArray.empty)) hx rfl rfl
    obtain ⟨b1, b2⟩ := r_auth ha (wordsStr [2, l, h] ++ ByteArray.empty)
    obtain ⟨c1, c2, c3, c4⟩ := r_three 2 l h ByteArray.empty rfl hl hh
    have n3 : ¬ (RSt.mk (wordsStr [x, 1, 0] ++ (authStr a ++ (wordsStr [2, l, h] ++ ByteArray.empty))) 0).third = 1 := by rw [a4]; decide
    rw [replyC_a2 n3 (by rw [a1, b1]; exact c2), rReply_a2 n3 (by rw [a1, b1]; exact c2), a1, a2, a3, a4, b1, b2, c1, c3, c4, re.2]
    exact ⟨rfl, rfl, rfl, rfl⟩
  · have eN : shN ⟨x, false, a, k, 0, 0, 0, 0, ByteArray.empty⟩ = [] := by rcases hk with rfl | rfl | rfl | rfl <;> rfl
    have e : replyStr ⟨x, false, a, k, 0, 0, 0, 0, ByteArray.empty⟩ = wordsStr [x, 1, 0] ++ (authStr a ++ (wordsStr [k] ++ ByteArray.empty)) := by
      simp [replyStr, dFlag, eN, wordsStr, ByteArray.append_assoc]
    rw [e]
    obtain ⟨a1, a2, a3, a4⟩ := r_three x 1 0 (authStr a ++ (wordsStr [k] ++ ByteArray.empty)) hx rfl rfl
    obtain ⟨b1, b2⟩ := r_auth ha (wordsStr [k] ++ ByteArray.empty)
    obtain ⟨c1, c2⟩ := r_one k ByteArray.empty (word_k hk)
    have n3 : ¬ (RSt.mk (wordsStr [x, 1, 0] ++ (authStr a ++ (wordsStr [k] ++ ByteArray.empty))) 0).third = 1 := by rw [a4]; decide
    have k0 : ¬ k = 0 := by omega
    have k2 : ¬ k = 2 := by omega
    rw [replyC_an n3 (by rw [a1, b1, c2]; exact k0) (by rw [a1, b1, c2]; exact k2), rReply_an n3 (by rw [a1, b1, c2]; exact k2), a1, a2, a3, a4, b1, b2, c1, c2, re.2]
    exact ⟨rfl, rfl, rfl, rfl⟩
theorem dFlag_le (r : ReplyM) : dFlag r ≤ 1 := by unfold dFlag; split <;> decide
theorem replyGood_iff {s : ByteArray} : replyGood s = true ↔ (RSt.mk s 0).replyC.2.doneV = 0 ∧ (RSt.mk s 0).kind = 1 ∧ (RSt.mk s 0).third ≤ 1 ∧ mayReplyB (RSt.mk s 0).replyC.1 = true := by simp [replyGood, and_assoc]
theorem replyGood_print {r : ReplyM} (h : replyMayB r = true) : replyGood (replyStr r) = true := by
  obtain ⟨h1, h2, h3, _⟩ := replyS_print h
  refine replyGood_iff.2 ⟨by rw [h1]; rfl, h2, by rw [h3]; exact dFlag_le r, by rw [h1]; exact mayReply_iff.2 (replyMay_iff.1 h).1⟩
theorem parseReply_print {r : ReplyM} (h : replyMayB r = true) : parseReplyM (replyStr r) = (r, 0) := by
  unfold parseReplyM
  rw [if_pos (replyGood_print h), (replyS_print h).1]
theorem rest_none {st : RSt} (h : st.doneV = 0) : st.e = 0 ∧ st.rest = ByteArray.empty := ⟨(doneV_zero.1 h).1, empty_of (doneV_zero.1 h).2⟩
theorem flag_of {st : RSt} (h : isWordB st.third = true) (h1 : st.third ≤ 1) (h2 : ¬ st.third = 1) : st.third = 0 := by
  have := isWordB_iff.1 h; omega
theorem replyGood_yes {s : ByteArray} (h : replyGood s = true) : replyMayB (RSt.mk s 0).replyC.1 = true ∧ s = replyStr (RSt.mk s 0).replyC.1 := by
  obtain ⟨h1, h2, h3, h4⟩ := replyGood_iff.1 h
  have hm := mayReply_iff.1 h4
  have hok := (mayReply_unf.1 h4).1
  have a0 : authMayB zeroAuth = true := rfl
  have w0 : isWordB 0 = true := rfl
  by_cases d : (RSt.mk s 0).third = 1
  · by_cases j0 : (RSt.mk s 0).three.uintV = 0
    · rw [replyC_d0 d j0] at h1 hm ⊢
      obtain ⟨e1, r1⟩ := rest_none h1
      obtain ⟨e2, m2, s2⟩ := b_three e1
      obtain ⟨e3, m3, s3⟩ := b_three e2
      refine ⟨replyMay_iff.2 ⟨hm, m3.1, a0, m2.2.1, m2.2.2⟩, ?_⟩
      have e : replyStr ⟨(RSt.mk s 0).uintV, true, zeroAuth, 0, 0, 0, (RSt.mk s 0).three.kind, (RSt.mk s 0).three.third, ByteArray.empty⟩ = wordsStr [(RSt.mk s 0).uintV, 1, 1] ++ wordsStr [0, (RSt.mk s 0).three.kind, (RSt.mk s 0).three.third] := by
        simp [replyStr, dFlag, shN, shO, getO, wordsStr, ByteArray.append_assoc]
      rw [e]
      rw [r1, ByteArray.append_empty, j0] at s2
      rw [s2, h2, d] at s3
      exact s3
    · by_cases j1 : (RSt.mk s 0).three.uintV = 1
      · rw [replyC_d1 d j1] at h1 hm ⊢
        obtain ⟨e1, r1⟩ := rest_none h1
        obtain ⟨e2, m2, s2⟩ := b_uint e1
        obtain ⟨e3, m3, s3⟩ := b_uint e2
        obtain ⟨e4, m4, s4⟩ := b_three e3
        refine ⟨replyMay_iff.2 ⟨hm, m4.1, a0, w0, w0⟩, ?_⟩
        have e : replyStr ⟨(RSt.mk s 0).uintV, true, zeroAuth, 0, 1, (RSt.mk s 0).three.kind, 0, 0, ByteArray.empty⟩ = wordsStr [(RSt.mk s 0).uintV, 1, 1] ++ (numStr 1 4 ++ (numStr (RSt.mk s 0).three.uint.uintV 4 ++ ByteArray.empty)) := by
          simp [replyStr, dFlag, shN, shO, getO, wordsStr, ByteArray.append_assoc, RSt.kind]
        rw [j1] at s3
        rw [d, h2] at s4
        rw [e, ← r1, ← s2, ← s3]
        exact s4
      · rw [replyC_dn d j0 j1] at hok
        simp [shOk, j0, j1] at hok
  · by_cases c0 : (RSt.mk s 0).three.authS.uintV = 0
    · rw [replyC_a0 d c0] at h1 hm ⊢
      obtain ⟨e1, v1⟩ := b_rest h1
      obtain ⟨e2, m2, s2⟩ := b_uint e1
      obtain ⟨e3, m3, s3⟩ := b_auth e2
      obtain ⟨e4, m4, s4⟩ := b_three e3
      have d0 := flag_of m4.2.2 h3 d
      refine ⟨replyMay_iff.2 ⟨hm, m4.1, m3, w0, w0⟩, ?_⟩
      have e : replyStr ⟨(RSt.mk s 0).uintV, false, (RSt.mk s 0).three.authV, 0, 0, 0, 0, 0, (RSt.mk s 0).three.authS.uint.restV⟩ = wordsStr [(RSt.mk s 0).uintV, 1, 0] ++ (authStr (RSt.mk s 0).three.authV ++ (numStr 0 4 ++ (RSt.mk s 0).three.authS.uint.rest)) := by
        rw [v1]; simp [replyStr, dFlag, shN, shO, wordsStr, ByteArray.append_assoc]
      rw [e]
      rw [c0] at s2
      rw [h2, d0] at s4
      rw [← s2, ← s3]
      exact s4
    · by_cases c2 : (RSt.mk s 0).three.authS.uintV = 2
      · rw [replyC_a2 d c2] at h1 hm ⊢
        obtain ⟨e1, r1⟩ := rest_none h1
        obtain ⟨e2, m2, s2⟩ := b_three e1
        obtain ⟨e3, m3, s3⟩ := b_auth e2
        obtain ⟨e4, m4, s4⟩ := b_three e3
        have d0 := flag_of m4.2.2 h3 d
        refine ⟨replyMay_iff.2 ⟨hm, m4.1, m3, m2.2.1, m2.2.2⟩, ?_⟩
        have e : replyStr ⟨(RSt.mk s 0).uintV, false, (RSt.mk s 0).three.authV, 2, 0, 0, (RSt.mk s 0).three.authS.kind, (RSt.mk s 0).three.authS.third, ByteArray.empty⟩ = wordsStr [(RSt.mk s 0).uintV, 1, 0] ++ (authStr (RSt.mk s 0).three.authV ++ (wordsStr [2, (RSt.mk s 0).three.authS.kind, (RSt.mk s 0).three.authS.third] ++ ByteArray.empty)) := by
          simp [replyStr, dFlag, shN, shO, getO, wordsStr, ByteArray.append_assoc]
        rw [e, ← r1]
        rw [c2] at s2
        rw [h2, d0] at s4
        rw [← s2, ← s3]
        exact s4
      · rw [replyC_an d c0 c2] at h1 hm hok ⊢
        obtain ⟨e1, r1⟩ := rest_none h1
        obtain ⟨e2, m2, s2⟩ := b_uint e1
        obtain ⟨e3, m3, s3⟩ := b_auth e2
        obtain ⟨e4, m4, s4⟩ := b_three e3
        have d0 := flag_of m4.2.2 h3 d
        refine ⟨replyMay_iff.2 ⟨hm, m4.1, m3, w0, w0⟩, ?_⟩
        have e : replyStr ⟨(RSt.mk s 0).uintV, false, (RSt.mk s 0).three.authV, (RSt.mk s 0).three.authS.uintV, 0, 0, 0, 0, ByteArray.empty⟩ = wordsStr [(RSt.mk s 0).uintV, 1, 0] ++ (authStr (RSt.mk s 0).three.authV ++ (numStr (RSt.mk s 0).three.authS.uintV 4 ++ ByteArray.empty)) := by
          simp [replyStr, dFlag, shN, shO, c2, wordsStr, ByteArray.append_assoc]
        rw [e, ← r1]
        rw [h2, d0] at s4
        rw [← s2, ← s3]
        exact s4
theorem parseReply_same (s : ByteArray) : rParseReplyM s = parseReplyM s := by
  unfold rParseReplyM parseReplyM
  by_cases hg : replyGood s = true
  · obtain ⟨h1, h2, h3, _⟩ := replyGood_iff.1 hg
    obtain ⟨hm, hs⟩ := replyGood_yes hg
    have hr : (RSt.mk s 0).rReply = (RSt.mk s 0).replyC.1 := by
      have := (replyS_print hm).2.2.2
      rwa [← hs] at this
    rw [if_neg (by rintro (h | h) <;> omega), hr, if_pos hg, if_pos]
    rw [(printReply_yes hm).2, ← hs]
  · rw [if_neg hg]
    split
    · rfl
    · rw [if_neg]
      intro hp
      have hm : replyMayB (RSt.mk s 0).rReply = true := by
        refine Classical.byContradiction fun hn => ?_
        rw [(printReply_no hn).2] at hp
        exact absurd (show (120 : Int) = 0 from congrArg Prod.snd hp) (by decide)
      rw [(printReply_yes hm).2] at hp
      have := replyGood_print hm
      rw [show replyStr (RSt.mk s 0).rReply = s from congrArg Prod.fst hp] at this
      exact hg this
end Go.Proofs.YtbegjpmifcnieaaGreatDoor
