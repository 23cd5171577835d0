/- The Reader of package xdr: numbers, counts, texts, and its end. -/
import Derived.Test.YtlcjfafmmoncpaaGreatDoorRd
import Derived.Test.YtlcjfafmmoncpaaGreatDoorXn
import Derived.Test.YtlcjfafmmoncpaaGreatDoorShelf
namespace Go.Proofs.YtlcjfafmmoncpaaGreatDoor
open Go.RowKit
set_option linter.unusedVariables false
set_option linter.unusedSimpArgs false

theorem fail_e {st : RSt} {n : Int} (hn : n ≠ 0) : (st.fail n).e ≠ 0 := by
  unfold RSt.fail; split
  · exact hn
  · assumption
theorem fail_rest {st : RSt} {n : Int} : (st.fail n).rest = st.rest := by unfold RSt.fail; split <;> rfl
theorem peeked_ok {st : RSt} {k : Nat} (h : (st.peeked k).e = 0) : st.e = 0 ∧ k ≤ (st.peeked k).rest.size := by
  unfold RSt.peeked at h ⊢
  split at h
  · exact absurd h (fail_e (by decide))
  · rename_i hc
    rw [if_neg hc]
    refine ⟨h, ?_⟩
    have := fun hs => hc ⟨h, hs⟩
    omega
theorem peekV_bound (st : RSt) (k : Nat) : 0 ≤ st.peekV k ∧ st.peekV k < 256 ^ k := by
  unfold RSt.peekV
  split
  · exact beN_bound _ _
  · exact ⟨Int.le_refl _, Int.pow_pos (by decide)⟩

theorem isEmpty_size (s : ByteArray) : s.toList.isEmpty = decide (s.size = 0) := by
  rw [ByteArray.toList_eq, Bool.eq_iff_iff, List.isEmpty_iff, decide_eq_true_eq]
  constructor
  · intro h
    have : s.data.toList.length = 0 := by rw [h]; rfl
    simpa using this
  · intro h
    exact List.eq_nil_of_length_eq_zero (by simpa using h)

def RSt.uint (st : RSt) : RSt := (st.peeked 4).takes 4
def RSt.uintV (st : RSt) : Int := st.peekV 4
def RSt.hyper (st : RSt) : RSt := (st.peeked 8).takes 8
def RSt.hyperV (st : RSt) : Int := wrap64 (st.peekV 8)

set_option maxRecDepth 100000 in
theorem RUint_any {b : Nat} {st : RSt} (w : World) (h : Rd w b st) :
    Calls Tryz.prog 49 #[.pointer (some ⟨b, 0, none⟩)] w fun r w' => r = .returned (.int .i64 st.uintV) ∧ Fr (fun k => k = b) w w' ∧ w'.heap.size = w.heap.size ∧ Rd w' b st.uint := by
  have hb := peekV_bound st 4
  have hb' : 0 ≤ st.peekV 4 ∧ st.peekV 4 < 4294967296 := hb
  clear hb
  go_enter Tryz.func49, Tryz.ntmps49
  go_wp2_with (first | (go_at_call 97; refine (peek_any 4 _ h (by decide)).mono ?_; rintro e w1 ⟨rfl, hf1, hs1, h1⟩) | (go_at_call 98; refine (takes_any 4 _ h1 (fun he => (peeked_ok he).2)).mono ?_; rintro e w2 ⟨rfl, hf2, hs2, h2⟩))
  go_ret
  exact ⟨rfl, hf1.trans hf2, hs2.trans hs1, h2⟩

set_option maxRecDepth 100000 in
theorem RHyper_any {b : Nat} {st : RSt} (w : World) (h : Rd w b st) :
    Calls Tryz.prog 76 #[.pointer (some ⟨b, 0, none⟩)] w fun r w' => r = .returned (.int .i64 st.hyperV) ∧ Fr (fun k => k = b) w w' ∧ w'.heap.size = w.heap.size ∧ Rd w' b st.hyper := by
  unfold RSt.hyperV
  go_enter Tryz.func76, Tryz.ntmps76
  go_wp2_with (first | (go_at_call 97; refine (peek_any 8 _ h (by decide)).mono ?_; rintro e w1 ⟨rfl, hf1, hs1, h1⟩) | (go_at_call 98; refine (takes_any 8 _ h1 (fun he => (peeked_ok he).2)).mono ?_; rintro e w2 ⟨rfl, hf2, hs2, h2⟩))
  go_ret
  exact ⟨rfl, hf1.trans hf2, hs2.trans hs1, h2⟩

def RSt.worded (st : RSt) (most : Int) : RSt := if isWordB most = true then st else st.fail 22
def RSt.manyS (st : RSt) (most : Int) : RSt :=
  if most < (st.worded most).peekV 4 then ((st.worded most).peeked 4).fail 23 else (st.worded most).peeked 4
def RSt.manyV (st : RSt) (most : Int) : Int := if (st.manyS most).e = 0 then (st.worded most).peekV 4 else 0
theorem manyS_ok {st : RSt} {most : Int} (h : (st.manyS most).e = 0) : 4 ≤ (st.manyS most).rest.size := by
  unfold RSt.manyS at h ⊢
  split at h
  · exact absurd h (fail_e (by decide))
  · rename_i hc
    rw [if_neg hc]
    exact (peeked_ok h).2

theorem peekV_bad {st : RSt} (h : st.e ≠ 0) (k : Nat) : st.peekV k = 0 := by simp [RSt.peekV, RSt.peekOk, h]
theorem peeked_bad {st : RSt} (h : st.e ≠ 0) (k : Nat) : st.peeked k = st := by simp [RSt.peeked, h]
theorem fail_bad {st : RSt} (h : st.e ≠ 0) (n : Int) : st.fail n = st := by simp [RSt.fail, h]

set_option maxRecDepth 100000 in
set_option maxHeartbeats 2000000 in
theorem many_any {b : Nat} {st : RSt} (most : Int) (w : World) (h : Rd w b st) :
    Calls Tryz.prog 139 #[.pointer (some ⟨b, 0, none⟩), .int .i64 most] w fun r w' => r = .returned (.int .i64 (st.manyV most)) ∧ Fr (fun k => k = b) w w' ∧ w'.heap.size = w.heap.size ∧ Rd w' b (st.manyS most) := by
  have hb' : 0 ≤ (st.worded most).peekV 4 ∧ (st.worded most).peekV 4 < 4294967296 := peekV_bound _ 4
  by_cases hw : isWordB most = true
  · have e1 : st.worded most = st := if_pos hw
    rw [e1] at hb'
    by_cases hm : most < st.peekV 4
    · have hS : st.manyS most = (st.peeked 4).fail 23 := by unfold RSt.manyS; rw [e1, if_pos hm]
      have hne : ((st.peeked 4).fail 23).e ≠ 0 := fail_e (by decide)
      have hV : st.manyV most = 0 := by unfold RSt.manyV; rw [hS, if_neg hne]
      rw [hS, hV]
      have HN := Lib.hid hne
      clear hS hV hne e1
      go_enter Tryz.func139, Tryz.ntmps139
      go_wp2_with (first | (go_at_call 118; refine (isWord_any _ _).mono ?_; rintro e w' ⟨rfl, rfl⟩) | (go_at_call 97; refine (peek_any 4 _ h (by decide)).mono ?_; rintro e w1 ⟨rfl, hf1, hs1, h1⟩) | (go_at_call 92; refine (RFail_any 23 _ h1).mono ?_; rintro e w2 ⟨rfl, hf2, hs2, h2⟩; have c1' := cellOf h2.blk 1; simp at c1'; rw [show errV ((st.peeked 4).fail 23).e = .iface 169 (.agg #[.int .i64 ((st.peeked 4).fail 23).e]) by simp [errV, HN.out]] at c1'))
      go_ret
      exact ⟨rfl, hf1.trans hf2, hs2.trans hs1, h2⟩
    · have hS : st.manyS most = st.peeked 4 := by unfold RSt.manyS; rw [e1, if_neg hm]
      rcases errV_form (st.peeked 4).e with ⟨h0, hz⟩ | ⟨h0, hz⟩
      · have hV : st.manyV most = st.peekV 4 := by unfold RSt.manyV; rw [hS, if_pos h0, e1]
        rw [hS, hV]
        have HZ := Lib.hid hz
        clear hS hV e1 hz h0
        go_enter Tryz.func139, Tryz.ntmps139
        go_wp2_with (first | (go_at_call 118; refine (isWord_any _ _).mono ?_; rintro e w' ⟨rfl, rfl⟩) | (go_at_call 97; refine (peek_any 4 _ h (by decide)).mono ?_; rintro e w1 ⟨rfl, hf1, hs1, h1⟩; have c1' := cellOf h1.blk 1; simp at c1'; rw [HZ.out] at c1'))
        go_ret
        exact ⟨rfl, hf1, hs1, h1⟩
      · have hV : st.manyV most = 0 := by unfold RSt.manyV; rw [hS, if_neg h0]
        rw [hS, hV]
        have HZ := Lib.hid hz
        clear hS hV e1 hz h0
        go_enter Tryz.func139, Tryz.ntmps139
        go_wp2_with (first | (go_at_call 118; refine (isWord_any _ _).mono ?_; rintro e w' ⟨rfl, rfl⟩) | (go_at_call 97; refine (peek_any 4 _ h (by decide)).mono ?_; rintro e w1 ⟨rfl, hf1, hs1, h1⟩; have c1' := cellOf h1.blk 1; simp at c1'; rw [HZ.out] at c1'))
        go_ret
        exact ⟨rfl, hf1, hs1, h1⟩
  · have e1 : st.worded most = st.fail 22 := if_neg hw
    have hne : (st.fail 22).e ≠ 0 := fail_e (by decide)
    have hp0 : (st.fail 22).peekV 4 = 0 := peekV_bad hne 4
    have hS : st.manyS most = st.fail 22 := by
      unfold RSt.manyS
      rw [e1, peeked_bad hne, fail_bad hne]
      split <;> rfl
    have hV : st.manyV most = 0 := by unfold RSt.manyV; rw [hS, if_neg hne]
    rw [hS, hV]
    rw [Bool.not_eq_true] at hw
    have HZ : Hid (errV (st.fail 22).e = .iface 169 (.agg #[.int .i64 (st.fail 22).e])) := Lib.hid (by simp [errV, hne])
    have HN := Lib.hid hne
    clear hb' e1 hS hV hne
    by_cases hm : most < 0
    · go_enter Tryz.func139, Tryz.ntmps139
      go_wp2_with (go_at_call 118; refine (isWord_any _ _).mono ?_; rintro e w' ⟨rfl, rfl⟩)
      refine (RFail_any 22 _ h).mono ?_
      rintro e w1 ⟨rfl, hf1, hs1, h1⟩
      go_wp2_with (go_at_call 97; refine (peek_any 4 _ h1 (by decide)).mono ?_; rintro e w2 ⟨rfl, hf2, hs2, h2⟩; rw [peeked_bad HN.out] at h2)
      refine (RFail_any 23 _ h2).mono ?_
      rintro e w3 ⟨rfl, hf3, hs3, h3⟩
      rw [fail_bad HN.out] at h3
      have c1' := cellOf h3.blk 1
      simp at c1'
      rw [HZ.out] at c1'
      go_wp2
      go_ret
      exact ⟨rfl, (hf1.trans hf2).trans hf3, by rw [hs3, hs2, hs1], h3⟩
    · go_enter Tryz.func139, Tryz.ntmps139
      go_wp2_with (go_at_call 118; refine (isWord_any _ _).mono ?_; rintro e w' ⟨rfl, rfl⟩)
      refine (RFail_any 22 _ h).mono ?_
      rintro e w1 ⟨rfl, hf1, hs1, h1⟩
      go_wp2_with (go_at_call 97; refine (peek_any 4 _ h1 (by decide)).mono ?_; rintro e w2 ⟨rfl, hf2, hs2, h2⟩; rw [peeked_bad HN.out] at h2; have c1' := cellOf h2.blk 1; simp at c1'; rw [HZ.out] at c1')
      go_ret
      exact ⟨rfl, hf1.trans hf2, by rw [hs2, hs1], h2⟩

def RSt.countS (st : RSt) (most : Int) : RSt := (st.manyS most).takes 4
set_option maxRecDepth 100000 in
theorem RCount_any {b : Nat} {st : RSt} (most : Int) (w : World) (h : Rd w b st) :
    Calls Tryz.prog 89 #[.pointer (some ⟨b, 0, none⟩), .int .i64 most] w fun r w' => r = .returned (.int .i64 (st.manyV most)) ∧ Fr (fun k => k = b) w w' ∧ w'.heap.size = w.heap.size ∧ Rd w' b (st.countS most) := by
  go_enter Tryz.func89, Tryz.ntmps89
  go_wp2_with (first | (go_at_call 139; refine (many_any most _ h).mono ?_; rintro e w1 ⟨rfl, hf1, hs1, h1⟩) | (go_at_call 98; refine (takes_any 4 _ h1 manyS_ok).mono ?_; rintro e w2 ⟨rfl, hf2, hs2, h2⟩))
  go_ret
  exact ⟨rfl, hf1.trans hf2, hs2.trans hs1, h2⟩

def RSt.restS (st : RSt) : RSt := st.takes st.rest.size
def RSt.restV (st : RSt) : ByteArray := st.taken st.rest.size
set_option maxRecDepth 100000 in
theorem RRest_any {b : Nat} {st : RSt} (w : World) (h : Rd w b st) :
    Calls Tryz.prog 33 #[.pointer (some ⟨b, 0, none⟩)] w fun r w' => r = .returned (.string st.restV) ∧ Fr (fun k => k = b) w w' ∧ w'.heap.size = w.heap.size ∧ Rd w' b st.restS := by
  have c0 := cellOf h.blk 0
  simp at c0
  go_enter Tryz.func33, Tryz.ntmps33
  go_wp2_with (go_at_call 98; refine (takes_any st.rest.size _ h (fun _ => Nat.le_refl _)).mono ?_; rintro e w2 ⟨rfl, hf2, hs2, h2⟩)
  go_ret
  exact ⟨rfl, hf2, hs2, h2⟩

def RSt.doneV (st : RSt) : Int := if st.e = 0 ∧ st.rest.size ≠ 0 then 21 else st.e
set_option maxRecDepth 100000 in
theorem RDone_any {b : Nat} {st : RSt} (w : World) (h : Rd w b st) (hg : ErrT w) :
    Calls Tryz.prog 25 #[.pointer (some ⟨b, 0, none⟩)] w fun r w' => r = .returned (.int .i64 st.doneV) ∧ Fr (fun _ => False) w w' := by
  have c0 := cellOf h.blk 0
  have c1 := cellOf h.blk 1
  simp at c0 c1
  have Hg := Lib.hid hg
  have Ht := Lib.hid (told_any st.e w hg)
  clear hg h
  rcases errV_form st.e with ⟨h0, hz⟩ | ⟨h0, hz⟩
  · by_cases hs : st.rest.size = 0
    · have hd : st.doneV = st.e := by simp [RSt.doneV, hs]
      rw [hd]
      have hT := Ht.out
      rw [hz] at c1 hT
      have HT := Lib.hid hT
      have hse : st.rest.toList.isEmpty = true := by rw [isEmpty_size]; simp [hs]
      clear hT hd h0 hz Ht hs
      go_enter Tryz.func25, Tryz.ntmps25
      go_wp2_with (go_at_call 94; refine HT.out.mono ?_; rintro e w2 ⟨rfl, hf2⟩)
      go_ret
      exact ⟨rfl, hf2⟩
    · have hd : st.doneV = 21 := by simp [RSt.doneV, hs, h0]
      rw [hd]
      rw [hz] at c1
      have hse : st.rest.toList.isEmpty = false := by rw [isEmpty_size]; simp [hs]
      clear hd h0 hz Ht hs
      go_enter Tryz.func25, Tryz.ntmps25
      go_wp2
      go_ret
      exact ⟨rfl, Fr.refl _ _⟩
  · have hd : st.doneV = st.e := by simp [RSt.doneV, h0]
    rw [hd]
    have hT := Ht.out
    rw [hz] at c1 hT
    have HT := Lib.hid hT
    clear hT hd h0 hz Ht
    go_enter Tryz.func25, Tryz.ntmps25
    go_wp2_with (go_at_call 94; refine HT.out.mono ?_; rintro e w2 ⟨rfl, hf2⟩)
    go_ret
    exact ⟨rfl, hf2⟩

end Go.Proofs.YtlcjfafmmoncpaaGreatDoor
