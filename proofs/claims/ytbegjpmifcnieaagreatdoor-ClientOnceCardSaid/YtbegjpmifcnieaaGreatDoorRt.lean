/- The Reader of package xdr: its making, numbers. -/
import Derived.Test.YtbegjpmifcnieaaGreatDoorXt
import Derived.Test.YtbegjpmifcnieaaGreatDoorShelf
import Derived.Test.YtbegjpmifcnieaaGreatDoorXp
import Derived.Deep.QuietTactic
import Derived.BigQuiet
namespace Go.Proofs.YtbegjpmifcnieaaGreatDoor
open Go.RowKit
set_option linter.unusedVariables false
set_option linter.unusedSimpArgs false

structure RSt where
  rest : ByteArray
  e : Int

/-- A Reader. -/
structure Rd (w : World) (b : Nat) (st : RSt) : Prop where
  blk : w.heap[b]? = some (.cells #[.string st.rest, errV st.e] 330 (0, 0))
  size : st.rest.size ≤ 140737488351232

def RSt.fail (st : RSt) (e : Int) : RSt := if st.e = 0 then { st with e := e } else st
/-- n bytes off the front. -/
def RSt.drop (st : RSt) (n : Nat) : RSt := { st with rest := st.rest.extract n st.rest.size }
def RSt.takes (st : RSt) (n : Nat) : RSt := if st.e = 0 then st.drop n else st
def RSt.taken (st : RSt) (n : Nat) : ByteArray := if st.e = 0 then st.rest.extract 0 n else ByteArray.empty

theorem Rd.keep {w w' : World} {b : Nat} {st : RSt} (h : Rd w b st) (hk : w'.heap[b]? = w.heap[b]?) : Rd w' b st := ⟨hk.trans h.blk, h.size⟩
theorem Rd.lt {w : World} {b : Nat} {st : RSt} (h : Rd w b st) : b < w.heap.size := lt_of_block h.blk
theorem Rd.fr {w w' : World} {S : Nat → Prop} {b : Nat} {st : RSt} (h : Rd w b st) (hf : Fr S w w') (hs : ¬ S b) : Rd w' b st := h.keep (hf.block _ h.lt hs)

theorem Rd.fail {w : World} {b : Nat} {st : RSt} (h : Rd w b st) (n : Int) : Rd (w.setCell ⟨b, 1, none⟩ (errV (firstE st.e n))) b (st.fail n) := by
  refine ⟨?_, by unfold RSt.fail; split <;> exact h.size⟩
  rw [setOf' h.blk]
  unfold RSt.fail firstE
  by_cases he : st.e = 0 <;> simp [he]

theorem RFail_any {b : Nat} {st : RSt} (n : Int) (w : World) (h : Rd w b st) :
    Calls Tryz.prog 273 #[.pointer (some ⟨b, 0, none⟩), .int .i64 n] w fun r w' => r = .returned (.tuple #[]) ∧ Fr (fun k => k = b) w w' ∧ w'.heap.size = w.heap.size ∧ Rd w' b (st.fail n) := by
  have hf := h.fail n
  have c1 := cellOf h.blk 1
  have f1 := freeOf h.blk 1
  simp at c1
  rcases errV_form (firstE st.e n) with ⟨-, hz⟩ | ⟨-, hz⟩
  all_goals
    rw [hz] at hf
    go_enter Tryz.func273, Tryz.ntmps273
    go_wp2_with (go_at_call 251; refine (first_any _ _ _).mono ?_; rintro e w' ⟨rfl, rfl⟩)
    go_end0
    exact ⟨rfl, Fr.setCell (S := fun k => k = b) (p := ⟨b, 1, none⟩) (Fr.refl _ _) (.inl rfl) _, by simp, hf⟩

theorem RNew_any (s : ByteArray) (w : World) (hs : s.size ≤ 140737488351232) :
    Calls Tryz.prog 158 #[.string s] w fun r w' => r = .returned (.pointer (some ⟨w.heap.size, 0, none⟩)) ∧ Fr (fun _ => False) w w' ∧ Rd w' w.heap.size ⟨s, 0⟩ := by
  go_enter Tryz.func158, Tryz.ntmps158
  go_wp2
  go_ret
  exact ⟨rfl, (Fr.refl _ _).alloc _, heap_alloc_new w _, hs⟩

set_option maxRecDepth 100000 in
theorem takes_any {b : Nat} {st : RSt} (n : Nat) (w : World) (h : Rd w b st) (hn : st.e = 0 → n ≤ st.rest.size) :
    Calls Tryz.prog 222 #[.pointer (some ⟨b, 0, none⟩), .int .i64 n] w fun r w' => r = .returned (.string (st.taken n)) ∧ Fr (fun k => k = b) w w' ∧ w'.heap.size = w.heap.size ∧ Rd w' b (st.takes n) := by
  have c0 := cellOf h.blk 0
  have f0 := freeOf h.blk 0
  have c1 := cellOf h.blk 1
  simp at c0 c1
  have hsz := h.size
  rcases errV_form st.e with ⟨h0, hz⟩ | ⟨h0, hz⟩
  · have hn' := hn h0
    rw [show st.taken n = st.rest.extract 0 n from if_pos h0, show st.takes n = st.drop n from if_pos h0]
    rw [hz] at c1
    have H := Lib.hid h
    have H0 := Lib.hid h0
    clear hn h h0
    go_enter Tryz.func222, Tryz.ntmps222
    go_wp2
    go_ret
    refine ⟨rfl, Fr.setCell (S := fun k => k = b) (p := ⟨b, 0, none⟩) (Fr.refl _ _) (.inl rfl) _, by simp, (setOf' H.out.blk 0 _).trans (by simp [RSt.drop]), ?_⟩
    show (st.rest.extract n st.rest.size).size ≤ _
    simp
    omega
  · rw [show st.taken n = ByteArray.empty from if_neg h0, show st.takes n = st from if_neg h0]
    rw [hz] at c1
    have H := Lib.hid h
    clear hn h h0 c0 f0
    go_enter Tryz.func222, Tryz.ntmps222
    go_wp2
    go_ret
    exact ⟨rfl, Fr.refl _ _, rfl, H.out⟩

theorem u64_wrap_in (z : Int) (h0 : 0 ≤ z) (h : z < 18446744073709551616) : IntKind.u64.wrap z = z := by
  simp only [IntKind.wrap, IntKind.bits, IntKind.signed]
  simp
  omega
theorem or_byte (x : Int) (b : Nat) (h0 : 0 ≤ x) (h : x < 72057594037927936) (hb : b < 256) : bits .or .u64 (IntKind.u64.wrap (x * 256)) (IntKind.u64.wrap (b : Int)) = x * 256 + b := by
  rw [u64_wrap_in _ (by omega) (by omega), u64_wrap_in _ (by omega) (by omega), u64_or _ _ (by omega) (by omega) (by omega) (by omega)]
  rw [nat_join 8 (x * 256).toNat (b : Int).toNat (by omega) (by omega)]
  omega

/-- the number that the first k bytes say. -/
def beN (s : ByteArray) (k : Nat) : Int := (s.data.toList.take k).foldl (fun n b => n * 256 + ((b.toNat : Nat) : Int)) 0
theorem beN_succ (s : ByteArray) (k : Nat) (h : k < s.size) : beN s (k + 1) = beN s k * 256 + ((s[k].toNat : Nat) : Int) := by
  unfold beN
  rw [List.take_succ_eq_append_getElem (by simpa using h), List.foldl_append]
  rfl
theorem beN_bound (s : ByteArray) : ∀ k, 0 ≤ beN s k ∧ beN s k < 256 ^ k := by
  intro k
  induction k with
  | zero => simp [beN]
  | succ k ih =>
    by_cases h : k < s.size
    · rw [beN_succ s k h, Int.pow_succ]
      have := UInt8.toNat_lt s[k]
      omega
    · have e : beN s (k + 1) = beN s k := by
        unfold beN
        rw [List.take_of_length_le (by simp; omega), List.take_of_length_le (by simp; omega)]
      rw [e, Int.pow_succ]
      omega

def RSt.peekOk (st : RSt) (k : Nat) : Bool := decide (st.e = 0) && decide (k ≤ st.rest.size)
def RSt.peekV (st : RSt) (k : Nat) : Int := if st.peekOk k = true then beN st.rest k else 0
def RSt.peeked (st : RSt) (k : Nat) : RSt := if st.e = 0 ∧ st.rest.size < k then st.fail 20 else st

set_option maxRecDepth 100000 in
set_option maxHeartbeats 2000000 in
theorem peek_any {b : Nat} {st : RSt} (K : Nat) (w : World) (h : Rd w b st) (hK : K ≤ 8) :
    Calls Tryz.prog 250 #[.pointer (some ⟨b, 0, none⟩), .int .i64 K] w fun r w' => r = .returned (.tuple #[.int .u64 (st.peekV K), .bool (st.peekOk K)]) ∧ Fr (fun k => k = b) w w' ∧ w'.heap.size = w.heap.size ∧ Rd w' b (st.peeked K) := by
  have c0 := cellOf h.blk 0
  have c1 := cellOf h.blk 1
  simp at c0 c1
  have hsz := h.size
  rcases errV_form st.e with ⟨h0, hz⟩ | ⟨h0, hz⟩
  · rw [hz] at c1
    by_cases hl : st.rest.size < K
    · have e1 : st.peekOk K = false := by simp [RSt.peekOk]; omega
      have e2 : st.peekV K = 0 := by simp [RSt.peekV, e1]
      have e3 : st.peeked K = st.fail 20 := by simp [RSt.peeked, h0, hl]
      have e4 : (st.fail 20).e ≠ 0 := by simp [RSt.fail, h0]
      rw [e1, e2, e3]
      have H4 := Lib.hid e4
      clear e1 e2 e3 e4 h0 hz
      go_enter Tryz.func250, Tryz.ntmps250
      go_wp2_with (go_at_call 273; refine (RFail_any _ _ h).mono ?_; rintro e w1 ⟨rfl, hf1, hs1, h1⟩; have c1' := cellOf h1.blk 1; simp at c1'; rw [show errV (st.fail 20).e = .iface 356 (.agg #[.int .i64 (st.fail 20).e]) by simp [errV, H4.out]] at c1')
      go_ret2
      exact ⟨rfl, hf1, hs1, h1⟩
    · have hl' := Nat.not_lt.1 hl
      have e1 : st.peekOk K = true := by simp [RSt.peekOk, h0, hl']
      have e2 : st.peekV K = beN st.rest K := by simp [RSt.peekV, e1]
      have e3 : st.peeked K = st := by simp [RSt.peeked, hl]
      rw [e1, e2, e3]
      have H := Lib.hid h
      clear e1 e2 e3 h0 hz h
      go_enter Tryz.func250, Tryz.ntmps250
      go_wp2
      go_loop [6, 30] (fun n i => ∃ k : Nat, k ≤ K ∧ i = .int .i64 k ∧ n = .int .u64 (beN st.rest k)) (fun _ i => K - (intOf i).toNat)
      case atStart => exact ⟨0, Nat.zero_le _, rfl, rfl⟩
      case round =>
        obtain ⟨k, hk, rfl, rfl⟩ := hrel
        by_cases hlt : k < K
        · have hks : k < st.rest.size := by omega
          have hb := beN_bound st.rest k
          have hs := beN_succ st.rest k hks
          generalize beN st.rest k = x at hb hs
          have hp : (256 : Int) ^ k ≤ 72057594037927936 := by
            have : k ≤ 7 := by omega
            rcases (by omega : k = 0 ∨ k = 1 ∨ k = 2 ∨ k = 3 ∨ k = 4 ∨ k = 5 ∨ k = 6 ∨ k = 7) with h | h | h | h | h | h | h | h <;> subst h <;> decide
          have hor := or_byte x st.rest[k].toNat hb.1 (by omega) (UInt8.toNat_lt _)
          have HS := Lib.hid hs
          have HO := Lib.hid hor
          clear hs hp hor hb
          go_wp2
          exact ⟨⟨k + 1, by omega, by go_num, by rw [HO.out, HS.out]⟩, by simp [intOf]; omega⟩
        · obtain rfl : k = K := by omega
          go_wp2
          go_ret2
          exact ⟨rfl, Fr.refl _ _, rfl, H.out⟩
  · have e1 : st.peekOk K = false := by simp [RSt.peekOk, h0]
    have e2 : st.peekV K = 0 := by simp [RSt.peekV, e1]
    have e3 : st.peeked K = st := by simp [RSt.peeked, h0]
    rw [e1, e2, e3]
    rw [hz] at c1
    have H := Lib.hid h
    clear e1 e2 e3 h0 hz h c0
    go_enter Tryz.func250, Tryz.ntmps250
    go_wp2
    go_ret2
    exact ⟨rfl, Fr.refl _ _, rfl, H.out⟩

end Go.Proofs.YtbegjpmifcnieaaGreatDoor

/- The Reader of package xdr: numbers, counts, texts, and its end. -/
namespace Go.Proofs.YtbegjpmifcnieaaGreatDoor
open Go.RowKit
set_option linter.unusedVariables false
set_option linter.unusedSimpArgs false

theorem fail_e {st : RSt} {n : Int} (hn : n ≠ 0) : (st.fail n).e ≠ 0 := by
  unfold RSt.fail; split
  · exact hn
  · assumption
theorem fail_rest {st : RSt} {n : Int} : (st.fail n).rest = st.rest := by unfold RSt.fail; split <;> rfl
theorem peeked_ok {st : RSt} {k : Nat} (h : (st.peeked k).e = 0) : st.e = 0 ∧ k ≤ (st.peeked k).rest.size := by
  unfold RSt.peeked at h ⊢
  split at h
  · exact absurd h (fail_e (by decide))
  · rename_i hc
    rw [if_neg hc]
    refine ⟨h, ?_⟩
    have := fun hs => hc ⟨h, hs⟩
    omega
theorem peekV_bound (st : RSt) (k : Nat) : 0 ≤ st.peekV k ∧ st.peekV k < 256 ^ k := by
  unfold RSt.peekV
  split
  · exact beN_bound _ _
  · exact ⟨Int.le_refl _, Int.pow_pos (by decide)⟩

theorem isEmpty_size (s : ByteArray) : s.toList.isEmpty = decide (s.size = 0) := by
  rw [ByteArray.toList_eq, Bool.eq_iff_iff, List.isEmpty_iff, decide_eq_true_eq]
  constructor
  · intro h
    have : s.data.toList.length = 0 := by rw [h]; rfl
    simpa using this
  · intro h
    exact List.eq_nil_of_length_eq_zero (by simpa using h)

def RSt.uint (st : RSt) : RSt := (st.peeked 4).takes 4
def RSt.uintV (st : RSt) : Int := st.peekV 4
def RSt.hyper (st : RSt) : RSt := (st.peeked 8).takes 8
def RSt.hyperV (st : RSt) : Int := wrap64 (st.peekV 8)

set_option maxRecDepth 100000 in
theorem RUint_any {b : Nat} {st : RSt} (w : World) (h : Rd w b st) :
    Calls Tryz.prog 217 #[.pointer (some ⟨b, 0, none⟩)] w fun r w' => r = .returned (.int .i64 st.uintV) ∧ Fr (fun k => k = b) w w' ∧ w'.heap.size = w.heap.size ∧ Rd w' b st.uint := by
  have hb := peekV_bound st 4
  have hb' : 0 ≤ st.peekV 4 ∧ st.peekV 4 < 4294967296 := hb
  clear hb
  go_enter Tryz.func217, Tryz.ntmps217
  go_wp2_with (first | (go_at_call 250; refine (peek_any 4 _ h (by decide)).mono ?_; rintro e w1 ⟨rfl, hf1, hs1, h1⟩) | (go_at_call 222; refine (takes_any 4 _ h1 (fun he => (peeked_ok he).2)).mono ?_; rintro e w2 ⟨rfl, hf2, hs2, h2⟩))
  go_ret
  exact ⟨rfl, hf1.trans hf2, hs2.trans hs1, h2⟩

set_option maxRecDepth 100000 in
theorem RHyper_any {b : Nat} {st : RSt} (w : World) (h : Rd w b st) :
    Calls Tryz.prog 266 #[.pointer (some ⟨b, 0, none⟩)] w fun r w' => r = .returned (.int .i64 st.hyperV) ∧ Fr (fun k => k = b) w w' ∧ w'.heap.size = w.heap.size ∧ Rd w' b st.hyper := by
  unfold RSt.hyperV
  go_enter Tryz.func266, Tryz.ntmps266
  go_wp2_with (first | (go_at_call 250; refine (peek_any 8 _ h (by decide)).mono ?_; rintro e w1 ⟨rfl, hf1, hs1, h1⟩) | (go_at_call 222; refine (takes_any 8 _ h1 (fun he => (peeked_ok he).2)).mono ?_; rintro e w2 ⟨rfl, hf2, hs2, h2⟩))
  go_ret
  exact ⟨rfl, hf1.trans hf2, hs2.trans hs1, h2⟩

def RSt.worded (st : RSt) (most : Int) : RSt := if isWordB most = true then st else st.fail 22
def RSt.manyS (st : RSt) (most : Int) : RSt :=
  if most < (st.worded most).peekV 4 then ((st.worded most).peeked 4).fail 23 else (st.worded most).peeked 4
def RSt.manyV (st : RSt) (most : Int) : Int := if (st.manyS most).e = 0 then (st.worded most).peekV 4 else 0
theorem manyS_ok {st : RSt} {most : Int} (h : (st.manyS most).e = 0) : 4 ≤ (st.manyS most).rest.size := by
  unfold RSt.manyS at h ⊢
  split at h
  · exact absurd h (fail_e (by decide))
  · rename_i hc
    rw [if_neg hc]
    exact (peeked_ok h).2

theorem peekV_bad {st : RSt} (h : st.e ≠ 0) (k : Nat) : st.peekV k = 0 := by simp [RSt.peekV, RSt.peekOk, h]
theorem peeked_bad {st : RSt} (h : st.e ≠ 0) (k : Nat) : st.peeked k = st := by simp [RSt.peeked, h]
theorem fail_bad {st : RSt} (h : st.e ≠ 0) (n : Int) : st.fail n = st := by simp [RSt.fail, h]

set_option maxRecDepth 100000 in
set_option maxHeartbeats 2000000 in
theorem many_any {b : Nat} {st : RSt} (most : Int) (w : World) (h : Rd w b st) :
    Calls Tryz.prog 252 #[.pointer (some ⟨b, 0, none⟩), .int .i64 most] w fun r w' => r = .returned (.int .i64 (st.manyV most)) ∧ Fr (fun k => k = b) w w' ∧ w'.heap.size = w.heap.size ∧ Rd w' b (st.manyS most) := by
  have hb' : 0 ≤ (st.worded most).peekV 4 ∧ (st.worded most).peekV 4 < 4294967296 := peekV_bound _ 4
  by_cases hw : isWordB most = true
  · have e1 : st.worded most = st := if_pos hw
    rw [e1] at hb'
    by_cases hm : most < st.peekV 4
    · have hS : st.manyS most = (st.peeked 4).fail 23 := by unfold RSt.manyS; rw [e1, if_pos hm]
      have hne : ((st.peeked 4).fail 23).e ≠ 0 := fail_e (by decide)
      have hV : st.manyV most = 0 := by unfold RSt.manyV; rw [hS, if_neg hne]
      rw [hS, hV]
      have HN := Lib.hid hne
      clear hS hV hne e1
      go_enter Tryz.func252, Tryz.ntmps252
      go_wp2_with (first | (go_at_call 247; refine (isWord_any _ _).mono ?_; rintro e w' ⟨rfl, rfl⟩) | (go_at_call 250; refine (peek_any 4 _ h (by decide)).mono ?_; rintro e w1 ⟨rfl, hf1, hs1, h1⟩) | (go_at_call 273; refine (RFail_any 23 _ h1).mono ?_; rintro e w2 ⟨rfl, hf2, hs2, h2⟩; have c1' := cellOf h2.blk 1; simp at c1'; rw [show errV ((st.peeked 4).fail 23).e = .iface 356 (.agg #[.int .i64 ((st.peeked 4).fail 23).e]) by simp [errV, HN.out]] at c1'))
      go_ret
      exact ⟨rfl, hf1.trans hf2, hs2.trans hs1, h2⟩
    · have hS : st.manyS most = st.peeked 4 := by unfold RSt.manyS; rw [e1, if_neg hm]
      rcases errV_form (st.peeked 4).e with ⟨h0, hz⟩ | ⟨h0, hz⟩
      · have hV : st.manyV most = st.peekV 4 := by unfold RSt.manyV; rw [hS, if_pos h0, e1]
        rw [hS, hV]
        have HZ := Lib.hid hz
        clear hS hV e1 hz h0
        go_enter Tryz.func252, Tryz.ntmps252
        go_wp2_with (first | (go_at_call 247; refine (isWord_any _ _).mono ?_; rintro e w' ⟨rfl, rfl⟩) | (go_at_call 250; refine (peek_any 4 _ h (by decide)).mono ?_; rintro e w1 ⟨rfl, hf1, hs1, h1⟩; have c1' := cellOf h1.blk 1; simp at c1'; rw [HZ.out] at c1'))
        go_ret
        exact ⟨rfl, hf1, hs1, h1⟩
      · have hV : st.manyV most = 0 := by unfold RSt.manyV; rw [hS, if_neg h0]
        rw [hS, hV]
        have HZ := Lib.hid hz
        clear hS hV e1 hz h0
        go_enter Tryz.func252, Tryz.ntmps252
        go_wp2_with (first | (go_at_call 247; refine (isWord_any _ _).mono ?_; rintro e w' ⟨rfl, rfl⟩) | (go_at_call 250; refine (peek_any 4 _ h (by decide)).mono ?_; rintro e w1 ⟨rfl, hf1, hs1, h1⟩; have c1' := cellOf h1.blk 1; simp at c1'; rw [HZ.out] at c1'))
        go_ret
        exact ⟨rfl, hf1, hs1, h1⟩
  · have e1 : st.worded most = st.fail 22 := if_neg hw
    have hne : (st.fail 22).e ≠ 0 := fail_e (by decide)
    have hp0 : (st.fail 22).peekV 4 = 0 := peekV_bad hne 4
    have hS : st.manyS most = st.fail 22 := by
      unfold RSt.manyS
      rw [e1, peeked_bad hne, fail_bad hne]
      split <;> rfl
    have hV : st.manyV most = 0 := by unfold RSt.manyV; rw [hS, if_neg hne]
    rw [hS, hV]
    rw [Bool.not_eq_true] at hw
    have HZ : Hid (errV (st.fail 22).e = .iface 356 (.agg #[.int .i64 (st.fail 22).e])) := Lib.hid (by simp [errV, hne])
    have HN := Lib.hid hne
    clear hb' e1 hS hV hne
    by_cases hm : most < 0
    · go_enter Tryz.func252, Tryz.ntmps252
      go_wp2_with (go_at_call 247; refine (isWord_any _ _).mono ?_; rintro e w' ⟨rfl, rfl⟩)
      refine (RFail_any 22 _ h).mono ?_
      rintro e w1 ⟨rfl, hf1, hs1, h1⟩
      go_wp2_with (go_at_call 250; refine (peek_any 4 _ h1 (by decide)).mono ?_; rintro e w2 ⟨rfl, hf2, hs2, h2⟩; rw [peeked_bad HN.out] at h2)
      refine (RFail_any 23 _ h2).mono ?_
      rintro e w3 ⟨rfl, hf3, hs3, h3⟩
      rw [fail_bad HN.out] at h3
      have c1' := cellOf h3.blk 1
      simp at c1'
      rw [HZ.out] at c1'
      go_wp2
      go_ret
      exact ⟨rfl, (hf1.trans hf2).trans hf3, by rw [hs3, hs2, hs1], h3⟩
    · go_enter Tryz.func252, Tryz.ntmps252
      go_wp2_with (go_at_call 247; refine (isWord_any _ _).mono ?_; rintro e w' ⟨rfl, rfl⟩)
      refine (RFail_any 22 _ h).mono ?_
      rintro e w1 ⟨rfl, hf1, hs1, h1⟩
      go_wp2_with (go_at_call 250; refine (peek_any 4 _ h1 (by decide)).mono ?_; rintro e w2 ⟨rfl, hf2, hs2, h2⟩; rw [peeked_bad HN.out] at h2; have c1' := cellOf h2.blk 1; simp at c1'; rw [HZ.out] at c1')
      go_ret
      exact ⟨rfl, hf1.trans hf2, by rw [hs2, hs1], h2⟩

def RSt.countS (st : RSt) (most : Int) : RSt := (st.manyS most).takes 4
set_option maxRecDepth 100000 in
theorem RCount_any {b : Nat} {st : RSt} (most : Int) (w : World) (h : Rd w b st) :
    Calls Tryz.prog 278 #[.pointer (some ⟨b, 0, none⟩), .int .i64 most] w fun r w' => r = .returned (.int .i64 (st.manyV most)) ∧ Fr (fun k => k = b) w w' ∧ w'.heap.size = w.heap.size ∧ Rd w' b (st.countS most) := by
  go_enter Tryz.func278, Tryz.ntmps278
  go_wp2_with (first | (go_at_call 252; refine (many_any most _ h).mono ?_; rintro e w1 ⟨rfl, hf1, hs1, h1⟩) | (go_at_call 222; refine (takes_any 4 _ h1 manyS_ok).mono ?_; rintro e w2 ⟨rfl, hf2, hs2, h2⟩))
  go_ret
  exact ⟨rfl, hf1.trans hf2, hs2.trans hs1, h2⟩

def RSt.restS (st : RSt) : RSt := st.takes st.rest.size
def RSt.restV (st : RSt) : ByteArray := st.taken st.rest.size
set_option maxRecDepth 100000 in
theorem RRest_any {b : Nat} {st : RSt} (w : World) (h : Rd w b st) :
    Calls Tryz.prog 161 #[.pointer (some ⟨b, 0, none⟩)] w fun r w' => r = .returned (.string st.restV) ∧ Fr (fun k => k = b) w w' ∧ w'.heap.size = w.heap.size ∧ Rd w' b st.restS := by
  have c0 := cellOf h.blk 0
  simp at c0
  go_enter Tryz.func161, Tryz.ntmps161
  go_wp2_with (go_at_call 222; refine (takes_any st.rest.size _ h (fun _ => Nat.le_refl _)).mono ?_; rintro e w2 ⟨rfl, hf2, hs2, h2⟩)
  go_ret
  exact ⟨rfl, hf2, hs2, h2⟩

def RSt.doneV (st : RSt) : Int := if st.e = 0 ∧ st.rest.size ≠ 0 then 21 else st.e
set_option maxRecDepth 100000 in
theorem RDone_any {b : Nat} {st : RSt} (w : World) (h : Rd w b st) (hg : ErrT w) :
    Calls Tryz.prog 162 #[.pointer (some ⟨b, 0, none⟩)] w fun r w' => r = .returned (.int .i64 st.doneV) ∧ Fr (fun _ => False) w w' := by
  have c0 := cellOf h.blk 0
  have c1 := cellOf h.blk 1
  simp at c0 c1
  have Hg := Lib.hid hg
  have Ht := Lib.hid (told_any st.e w hg)
  clear hg h
  rcases errV_form st.e with ⟨h0, hz⟩ | ⟨h0, hz⟩
  · by_cases hs : st.rest.size = 0
    · have hd : st.doneV = st.e := by simp [RSt.doneV, hs]
      rw [hd]
      have hT := Ht.out
      rw [hz] at c1 hT
      have HT := Lib.hid hT
      have hse : st.rest.toList.isEmpty = true := by rw [isEmpty_size]; simp [hs]
      clear hT hd h0 hz Ht hs
      go_enter Tryz.func162, Tryz.ntmps162
      go_wp2_with (go_at_call 216; refine HT.out.mono ?_; rintro e w2 ⟨rfl, hf2⟩)
      go_ret
      exact ⟨rfl, hf2⟩
    · have hd : st.doneV = 21 := by simp [RSt.doneV, hs, h0]
      rw [hd]
      rw [hz] at c1
      have hse : st.rest.toList.isEmpty = false := by rw [isEmpty_size]; simp [hs]
      clear hd h0 hz Ht hs
      go_enter Tryz.func162, Tryz.ntmps162
      go_wp2
      go_ret
      exact ⟨rfl, Fr.refl _ _⟩
  · have hd : st.doneV = st.e := by simp [RSt.doneV, h0]
    rw [hd]
    have hT := Ht.out
    rw [hz] at c1 hT
    have HT := Lib.hid hT
    clear hT hd h0 hz Ht
    go_enter Tryz.func162, Tryz.ntmps162
    go_wp2_with (go_at_call 216; refine HT.out.mono ?_; rintro e w2 ⟨rfl, hf2⟩)
    go_ret
    exact ⟨rfl, hf2⟩

end Go.Proofs.YtbegjpmifcnieaaGreatDoor

/- The Reader of package xdr: texts with their padding. -/
namespace Go.Proofs.YtbegjpmifcnieaaGreatDoor
open Go.RowKit
set_option linter.unusedVariables false
set_option linter.unusedSimpArgs false

theorem padding_same (n : Nat) (w : World) (hn : n ≤ 140737488355328) : Calls Tryz.prog 268 #[.int .i64 n] w fun r w' => r = .returned (.int .i64 (padN n)) ∧ w' = w :=
  (padding_any n w hn).mono fun _ _ ⟨h1, h2⟩ => ⟨h1, h2.symm⟩

/-- all noughts? -/
def zerosB (s : ByteArray) : Bool := s.data.toList.all (· == 0)
def RSt.padPart (st : RSt) (behind n : Nat) : ByteArray := st.rest.extract (behind + n) (behind + n + padN n)
def RSt.textS (st : RSt) (behind n : Nat) : RSt :=
  if st.e = 0 then (if st.rest.size < behind + n + padN n then st.fail 20 else if zerosB (st.padPart behind n) = true then st.drop (behind + n + padN n) else st.fail 24) else st
def RSt.textV (st : RSt) (behind n : Nat) : ByteArray :=
  if st.e = 0 ∧ behind + n + padN n ≤ st.rest.size ∧ zerosB (st.padPart behind n) = true then st.rest.extract behind (behind + n) else ByteArray.empty

theorem dropWhile_all {α : Type} (p : α → Bool) : ∀ (l : List α), l.all p = true → l.dropWhile p = [] := by
  intro l
  induction l with
  | nil => intro _; rfl
  | cons a l ih =>
    intro h
    rw [List.all_cons, Bool.and_eq_true] at h
    rw [List.dropWhile_cons, if_pos h.1]
    exact ih h.2
theorem dropWhile_nil {α : Type} (p : α → Bool) : ∀ (l : List α), l.dropWhile p = [] → l.all p = true := by
  intro l
  induction l with
  | nil => intro _; rfl
  | cons a l ih =>
    intro h
    rw [List.dropWhile_cons] at h
    split at h
    · rename_i ha
      rw [List.all_cons, ha, ih h]
      rfl
    · cases h
theorem all_dropWhile {α : Type} (p : α → Bool) : ∀ (l : List α), (l.dropWhile p).all p = true → l.all p = true := by
  intro l
  induction l with
  | nil => intro _; rfl
  | cons a l ih =>
    intro h
    rw [List.dropWhile_cons] at h
    split at h
    · rename_i ha
      rw [List.all_cons, ha, ih h]
      rfl
    · exact h
theorem trim_zeros (s : ByteArray) (h : zerosB s = true) : Lib.trimB s.data.toList 0 = [] := by
  unfold Lib.trimB Lib.trimLeftB Lib.trimRightB
  rw [dropWhile_all _ s.data.toList.reverse (by rw [List.all_reverse]; exact h)]
  rfl
theorem trim_some (s : ByteArray) (h : zerosB s = false) : Lib.trimB s.data.toList 0 ≠ [] := by
  intro h2
  unfold Lib.trimB Lib.trimLeftB Lib.trimRightB at h2
  have h3 := dropWhile_nil _ _ h2
  rw [List.all_reverse] at h3
  have h4 := all_dropWhile _ _ h3
  rw [List.all_reverse] at h4
  unfold zerosB at h
  rw [h] at h4
  cases h4

theorem trim_quiet (s : ByteArray) (w : World) (hs : s.size ≤ 9223372036854775807) :
    Calls Tryz.prog 274 #[.string s, .string ⟨#[0]⟩] w fun e w' => e = .returned (.string ⟨(Lib.trimB s.data.toList 0).toArray⟩) ∧ ∃ m, w' = w.drewN m :=
  (Tryz.strings_Trim_one s 0 (by decide) w hs).mono fun _ _ ⟨h1, h2⟩ => ⟨h1, h2.elim (fun h => ⟨0, h⟩) (fun h => ⟨1, h⟩)⟩
theorem trim_zeros_quiet (s : ByteArray) (w : World) (hs : s.size ≤ 9223372036854775807) (hz : zerosB s = true) :
    Calls Tryz.prog 274 #[.string s, .string ⟨#[0]⟩] w fun e w' => e = .returned (.string ByteArray.empty) ∧ ∃ m, w' = w.drewN m := by
  have := trim_quiet s w hs
  rw [trim_zeros s hz] at this
  exact this

set_option maxRecDepth 100000 in
set_option maxHeartbeats 2000000 in
theorem text_any {b : Nat} {st : RSt} (behind n : Nat) (w : World) (h : Rd w b st) (hn : n ≤ 4294967295) (hb : st.e = 0 → behind ≤ st.rest.size) :
    Calls Tryz.prog 253 #[.pointer (some ⟨b, 0, none⟩), .int .i64 behind, .int .i64 n] w fun r w' => r = .returned (.string (st.textV behind n)) ∧ Fr (fun k => k = b) w w' ∧ w'.heap.size = w.heap.size ∧ Rd w' b (st.textS behind n) := by
  have c0 := cellOf h.blk 0
  have c1 := cellOf h.blk 1
  simp at c0 c1
  have hsz := h.size
  have hp := padN_lt n
  rcases errV_form st.e with ⟨h0, hz⟩ | ⟨h0, hz⟩
  · have hb' := hb h0
    rw [hz] at c1
    by_cases hl : st.rest.size < behind + n + padN n
    · have e1 : st.textV behind n = ByteArray.empty := by unfold RSt.textV; rw [if_neg (by omega)]
      have e2 : st.textS behind n = st.fail 20 := by unfold RSt.textS; rw [if_pos h0, if_pos hl]
      have hne : (st.fail 20).e ≠ 0 := fail_e (by decide)
      rw [e1, e2]
      have H := Lib.hid h
      have HN := Lib.hid hne
      clear e1 e2 hne h h0 hz hb
      go_enter Tryz.func253, Tryz.ntmps253
      go_wp2
      go_quiet ((go_at_call 268; exact Calls.quiet_of_same (padding_same _ _ (by omega))))
      have hd : Rd (w.drewN nq) b st := H.out.keep rfl
      go_wp2_with (go_at_call 273; refine (RFail_any _ _ hd).mono ?_; rintro e w1 ⟨rfl, hf1, hs1, h1⟩; have c1' := cellOf h1.blk 1; simp at c1'; rw [show errV (st.fail 20).e = .iface 356 (.agg #[.int .i64 (st.fail 20).e]) by simp [errV, HN.out]] at c1')
      go_ret
      exact ⟨rfl, Fr.ofDrewN hf1, hs1, h1⟩
    · have hl' := Nat.not_lt.1 hl
      have H := Lib.hid h
      have H0 := Lib.hid h0
      by_cases hzr : zerosB (st.padPart behind n) = true
      · have e1 : st.textV behind n = st.rest.extract behind (behind + n) := by unfold RSt.textV; rw [if_pos ⟨h0, hl', hzr⟩]
        have e2 : st.textS behind n = st.drop (behind + n + padN n) := by unfold RSt.textS; rw [if_pos h0, if_neg hl, if_pos hzr]
        rw [e1, e2]
        have hps : (st.rest.extract (behind + n) (behind + n + padN n)).size ≤ 9223372036854775807 := by simp; omega
        have HT := fun w => Lib.hid (trim_zeros_quiet (st.rest.extract (behind + n) (behind + n + padN n)) w hps hzr)
        have hT := takes_any (behind + n + padN n) (st := st) (b := b)
        rw [show ((behind + n + padN n : Nat) : Int) = (behind : Int) + n + padN n by omega] at hT
        have HTK := Lib.hid hT
        have HL := Lib.hid (fun (_ : st.e = 0) => hl')
        clear e1 e2 h h0 hz hb hl hzr hT
        go_enter Tryz.func253, Tryz.ntmps253
        go_wp2
        go_quiet ((go_at_call 268; exact Calls.quiet_of_same (padding_same _ _ (by omega))))
        go_wp2
        have hfw : Fr (fun k => k = b) w (w.drewN nq) := (Fr.refl _ _).drewN nq
        have hsw : (w.drewN nq).heap.size = w.heap.size := rfl
        have hdw : Rd (w.drewN nq) b st := H.out.keep rfl
        generalize w.drewN nq = W at hfw hsw hdw ⊢
        clear c0 c1
        have c0 := cellOf hdw.blk 0
        have c1 := cellOf hdw.blk 1
        simp at c0 c1
        rw [show errV st.e = .nilIface by simp [errV, H0.out]] at c1
        go_quiet ((first | (go_at_call 268; exact Calls.quiet_of_same (padding_same _ _ (by omega))) | (go_at_call 274; exact Calls.quiet_of (HT _).out)))
        go_wp2_with (first | (go_at_call 268; refine (padding_any _ _ (by omega)).mono ?_; rintro e w' ⟨rfl, rfl⟩) | (go_at_call 222; refine (HTK.out _ (by exact hdw.keep rfl) HL.out).mono ?_; rintro e w2 ⟨rfl, hf2, hs2, h2⟩))
        go_ret
        refine ⟨rfl, hfw.trans (Fr.ofDrewN hf2), hs2.trans hsw, ?_⟩
        have := h2
        unfold RSt.takes at this
        rwa [if_pos H0.out] at this
      · rw [Bool.not_eq_true] at hzr
        have e1 : st.textV behind n = ByteArray.empty := by unfold RSt.textV; rw [if_neg (by simp [hzr])]
        have e2 : st.textS behind n = st.fail 24 := by unfold RSt.textS; rw [if_pos h0, if_neg hl, if_neg (by simp [hzr])]
        rw [e1, e2]
        have hps : (st.rest.extract (behind + n) (behind + n + padN n)).size ≤ 9223372036854775807 := by simp; omega
        have HT := fun w => Lib.hid (trim_quiet (st.rest.extract (behind + n) (behind + n + padN n)) w hps)
        have hne : (Lib.trimB (st.rest.extract (behind + n) (behind + n + padN n)).data.toList 0).isEmpty = false := by
          rw [← Bool.not_eq_true, List.isEmpty_iff]
          exact trim_some _ hzr
        generalize Lib.trimB (st.rest.extract (behind + n) (behind + n + padN n)).data.toList 0 = T at HT hne
        have HNE := Lib.hid hne
        clear e1 e2 h h0 hz hb hl hzr hne
        go_enter Tryz.func253, Tryz.ntmps253
        go_wp2
        go_quiet ((go_at_call 268; exact Calls.quiet_of_same (padding_same _ _ (by omega))))
        go_wp2
        have hfw : Fr (fun k => k = b) w (w.drewN nq) := (Fr.refl _ _).drewN nq
        have hsw : (w.drewN nq).heap.size = w.heap.size := rfl
        have hdw : Rd (w.drewN nq) b st := H.out.keep rfl
        generalize w.drewN nq = W at hfw hsw hdw ⊢
        clear c0 c1
        have c0 := cellOf hdw.blk 0
        have c1 := cellOf hdw.blk 1
        simp at c0 c1
        rw [show errV st.e = .nilIface by simp [errV, H0.out]] at c1
        have hne := HNE.out
        go_quiet ((first | (go_at_call 268; exact Calls.quiet_of_same (padding_same _ _ (by omega))) | (go_at_call 274; exact Calls.quiet_of (HT _).out)))
        go_wp2_with (go_at_call 273; refine (RFail_any 24 _ (by exact hdw.keep rfl)).mono ?_; rintro e w2 ⟨rfl, hf2, hs2, h2⟩)
        go_ret
        exact ⟨rfl, hfw.trans (Fr.ofDrewN hf2), hs2.trans hsw, h2⟩
  · have e1 : st.textV behind n = ByteArray.empty := by unfold RSt.textV; rw [if_neg (by simp [h0])]
    have e2 : st.textS behind n = st := by unfold RSt.textS; rw [if_neg h0]
    rw [e1, e2]
    rw [hz] at c1
    have H := Lib.hid h
    clear e1 e2 h h0 hz hb c0
    go_enter Tryz.func253, Tryz.ntmps253
    go_wp2
    go_quiet (fail)
    go_wp2
    go_ret
    exact ⟨rfl, (Fr.refl _ _).drewN _, rfl, H.out.keep rfl⟩

theorem manyV_bound (st : RSt) (most : Int) : 0 ≤ st.manyV most ∧ st.manyV most < 4294967296 := by
  unfold RSt.manyV
  split
  · exact peekV_bound _ 4
  · omega
def RSt.opaqueS (st : RSt) (most : Int) : RSt := (st.manyS most).textS 4 (st.manyV most).toNat
def RSt.opaqueV (st : RSt) (most : Int) : ByteArray := (st.manyS most).textV 4 (st.manyV most).toNat
set_option maxRecDepth 100000 in
theorem ROpaque_any {b : Nat} {st : RSt} (most : Int) (w : World) (h : Rd w b st) :
    Calls Tryz.prog 221 #[.pointer (some ⟨b, 0, none⟩), .int .i64 most] w fun r w' => r = .returned (.string (st.opaqueV most)) ∧ Fr (fun k => k = b) w w' ∧ w'.heap.size = w.heap.size ∧ Rd w' b (st.opaqueS most) := by
  have hb := manyV_bound st most
  have hM := Lib.hid (many_any most w h)
  have hT := fun (w : World) (h : Rd w b (st.manyS most)) => text_any 4 (st.manyV most).toNat w h (by omega) manyS_ok
  rw [show (((st.manyV most).toNat : Nat) : Int) = st.manyV most by omega] at hT
  have HT := Lib.hid hT
  clear hT h
  unfold RSt.opaqueV RSt.opaqueS
  go_enter Tryz.func221, Tryz.ntmps221
  go_wp2_with (first | (go_at_call 252; refine hM.out.mono ?_; rintro e w1 ⟨rfl, hf1, hs1, h1⟩) | (go_at_call 253; refine (HT.out _ h1).mono ?_; rintro e w2 ⟨rfl, hf2, hs2, h2⟩))
  go_ret
  exact ⟨rfl, hf1.trans hf2, hs2.trans hs1, h2⟩

end Go.Proofs.YtbegjpmifcnieaaGreatDoor
