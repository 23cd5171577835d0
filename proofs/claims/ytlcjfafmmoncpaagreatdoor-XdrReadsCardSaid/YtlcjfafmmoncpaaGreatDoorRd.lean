/- The Reader of package xdr: its making, numbers. -/
import Derived.Test.YtlcjfafmmoncpaaGreatDoorXt
namespace Go.Proofs.YtlcjfafmmoncpaaGreatDoor
open Go.RowKit
set_option linter.unusedVariables false
set_option linter.unusedSimpArgs false

structure RSt where
  rest : ByteArray
  e : Int

/-- A Reader. -/
structure Rd (w : World) (b : Nat) (st : RSt) : Prop where
  blk : w.heap[b]? = some (.cells #[.string st.rest, errV st.e] 110 (0, 0))
  size : st.rest.size ≤ 140737488351232

def RSt.fail (st : RSt) (e : Int) : RSt := if st.e = 0 then { st with e := e } else st
/-- n bytes off the front. -/
def RSt.drop (st : RSt) (n : Nat) : RSt := { st with rest := st.rest.extract n st.rest.size }
def RSt.takes (st : RSt) (n : Nat) : RSt := if st.e = 0 then st.drop n else st
def RSt.taken (st : RSt) (n : Nat) : ByteArray := if st.e = 0 then st.rest.extract 0 n else ByteArray.empty

theorem Rd.keep {w w' : World} {b : Nat} {st : RSt} (h : Rd w b st) (hk : w'.heap[b]? = w.heap[b]?) : Rd w' b st := ⟨hk.trans h.blk, h.size⟩
theorem Rd.lt {w : World} {b : Nat} {st : RSt} (h : Rd w b st) : b < w.heap.size := lt_of_block h.blk
theorem Rd.fr {w w' : World} {S : Nat → Prop} {b : Nat} {st : RSt} (h : Rd w b st) (hf : Fr S w w') (hs : ¬ S b) : Rd w' b st := h.keep (hf.block _ h.lt hs)

theorem Rd.fail {w : World} {b : Nat} {st : RSt} (h : Rd w b st) (n : Int) : Rd (w.setCell ⟨b, 1, none⟩ (errV (firstE st.e n))) b (st.fail n) := by
  refine ⟨?_, by unfold RSt.fail; split <;> exact h.size⟩
  rw [setOf' h.blk]
  unfold RSt.fail firstE
  by_cases he : st.e = 0 <;> simp [he]

theorem RFail_any {b : Nat} {st : RSt} (n : Int) (w : World) (h : Rd w b st) :
    Calls Tryz.prog 92 #[.pointer (some ⟨b, 0, none⟩), .int .i64 n] w fun r w' => r = .returned (.tuple #[]) ∧ Fr (fun k => k = b) w w' ∧ w'.heap.size = w.heap.size ∧ Rd w' b (st.fail n) := by
  have hf := h.fail n
  have c1 := cellOf h.blk 1
  have f1 := freeOf h.blk 1
  simp at c1
  rcases errV_form (firstE st.e n) with ⟨-, hz⟩ | ⟨-, hz⟩
  all_goals
    rw [hz] at hf
    go_enter Tryz.func92, Tryz.ntmps92
    go_wp2_with (go_at_call 132; refine (first_any _ _ _).mono ?_; rintro e w' ⟨rfl, rfl⟩)
    go_end0
    exact ⟨rfl, Fr.setCell (S := fun k => k = b) (p := ⟨b, 1, none⟩) (Fr.refl _ _) (.inl rfl) _, by simp, hf⟩

theorem RNew_any (s : ByteArray) (w : World) (hs : s.size ≤ 140737488351232) :
    Calls Tryz.prog 18 #[.string s] w fun r w' => r = .returned (.pointer (some ⟨w.heap.size, 0, none⟩)) ∧ Fr (fun _ => False) w w' ∧ Rd w' w.heap.size ⟨s, 0⟩ := by
  go_enter Tryz.func18, Tryz.ntmps18
  go_wp2
  go_ret
  exact ⟨rfl, (Fr.refl _ _).alloc _, heap_alloc_new w _, hs⟩

set_option maxRecDepth 100000 in
theorem takes_any {b : Nat} {st : RSt} (n : Nat) (w : World) (h : Rd w b st) (hn : st.e = 0 → n ≤ st.rest.size) :
    Calls Tryz.prog 98 #[.pointer (some ⟨b, 0, none⟩), .int .i64 n] w fun r w' => r = .returned (.string (st.taken n)) ∧ Fr (fun k => k = b) w w' ∧ w'.heap.size = w.heap.size ∧ Rd w' b (st.takes n) := by
  have c0 := cellOf h.blk 0
  have f0 := freeOf h.blk 0
  have c1 := cellOf h.blk 1
  simp at c0 c1
  have hsz := h.size
  rcases errV_form st.e with ⟨h0, hz⟩ | ⟨h0, hz⟩
  · have hn' := hn h0
    rw [show st.taken n = st.rest.extract 0 n from if_pos h0, show st.takes n = st.drop n from if_pos h0]
    rw [hz] at c1
    have H := Lib.hid h
    have H0 := Lib.hid h0
    clear hn h h0
    go_enter Tryz.func98, Tryz.ntmps98
    go_wp2
    go_ret
    refine ⟨rfl, Fr.setCell (S := fun k => k = b) (p := ⟨b, 0, none⟩) (Fr.refl _ _) (.inl rfl) _, by simp, (setOf' H.out.blk 0 _).trans (by simp [RSt.drop]), ?_⟩
    show (st.rest.extract n st.rest.size).size ≤ _
    simp
    omega
  · rw [show st.taken n = ByteArray.empty from if_neg h0, show st.takes n = st from if_neg h0]
    rw [hz] at c1
    have H := Lib.hid h
    clear hn h h0 c0 f0
    go_enter Tryz.func98, Tryz.ntmps98
    go_wp2
    go_ret
    exact ⟨rfl, Fr.refl _ _, rfl, H.out⟩

theorem u64_wrap_in (z : Int) (h0 : 0 ≤ z) (h : z < 18446744073709551616) : IntKind.u64.wrap z = z := by
  simp only [IntKind.wrap, IntKind.bits, IntKind.signed]
  simp
  omega
theorem or_byte (x : Int) (b : Nat) (h0 : 0 ≤ x) (h : x < 72057594037927936) (hb : b < 256) : bits .or .u64 (IntKind.u64.wrap (x * 256)) (IntKind.u64.wrap (b : Int)) = x * 256 + b := by
  rw [u64_wrap_in _ (by omega) (by omega), u64_wrap_in _ (by omega) (by omega), u64_or _ _ (by omega) (by omega) (by omega) (by omega)]
  rw [nat_join 8 (x * 256).toNat (b : Int).toNat (by omega) (by omega)]
  omega

/-- the number that the first k bytes say. -/
def beN (s : ByteArray) (k : Nat) : Int := (s.data.toList.take k).foldl (fun n b => n * 256 + ((b.toNat : Nat) : Int)) 0
theorem beN_succ (s : ByteArray) (k : Nat) (h : k < s.size) : beN s (k + 1) = beN s k * 256 + ((s[k].toNat : Nat) : Int) := by
  unfold beN
  rw [List.take_succ_eq_append_getElem (by simpa using h), List.foldl_append]
  rfl
theorem beN_bound (s : ByteArray) : ∀ k, 0 ≤ beN s k ∧ beN s k < 256 ^ k := by
  intro k
  induction k with
  | zero => simp [beN]
  | succ k ih =>
    by_cases h : k < s.size
    · rw [beN_succ s k h, Int.pow_succ]
      have := UInt8.toNat_lt s[k]
      omega
    · have e : beN s (k + 1) = beN s k := by
        unfold beN
        rw [List.take_of_length_le (by simp; omega), List.take_of_length_le (by simp; omega)]
      rw [e, Int.pow_succ]
      omega

def RSt.peekOk (st : RSt) (k : Nat) : Bool := decide (st.e = 0) && decide (k ≤ st.rest.size)
def RSt.peekV (st : RSt) (k : Nat) : Int := if st.peekOk k = true then beN st.rest k else 0
def RSt.peeked (st : RSt) (k : Nat) : RSt := if st.e = 0 ∧ st.rest.size < k then st.fail 20 else st

set_option maxRecDepth 100000 in
set_option maxHeartbeats 2000000 in
theorem peek_any {b : Nat} {st : RSt} (K : Nat) (w : World) (h : Rd w b st) (hK : K ≤ 8) :
    Calls Tryz.prog 97 #[.pointer (some ⟨b, 0, none⟩), .int .i64 K] w fun r w' => r = .returned (.tuple #[.int .u64 (st.peekV K), .bool (st.peekOk K)]) ∧ Fr (fun k => k = b) w w' ∧ w'.heap.size = w.heap.size ∧ Rd w' b (st.peeked K) := by
  have c0 := cellOf h.blk 0
  have c1 := cellOf h.blk 1
  simp at c0 c1
  have hsz := h.size
  rcases errV_form st.e with ⟨h0, hz⟩ | ⟨h0, hz⟩
  · rw [hz] at c1
    by_cases hl : st.rest.size < K
    · have e1 : st.peekOk K = false := by simp [RSt.peekOk]; omega
      have e2 : st.peekV K = 0 := by simp [RSt.peekV, e1]
      have e3 : st.peeked K = st.fail 20 := by simp [RSt.peeked, h0, hl]
      have e4 : (st.fail 20).e ≠ 0 := by simp [RSt.fail, h0]
      rw [e1, e2, e3]
      have H4 := Lib.hid e4
      clear e1 e2 e3 e4 h0 hz
      go_enter Tryz.func97, Tryz.ntmps97
      go_wp2_with (go_at_call 92; refine (RFail_any _ _ h).mono ?_; rintro e w1 ⟨rfl, hf1, hs1, h1⟩; have c1' := cellOf h1.blk 1; simp at c1'; rw [show errV (st.fail 20).e = .iface 169 (.agg #[.int .i64 (st.fail 20).e]) by simp [errV, H4.out]] at c1')
      go_ret2
      exact ⟨rfl, hf1, hs1, h1⟩
    · have hl' := Nat.not_lt.1 hl
      have e1 : st.peekOk K = true := by simp [RSt.peekOk, h0, hl']
      have e2 : st.peekV K = beN st.rest K := by simp [RSt.peekV, e1]
      have e3 : st.peeked K = st := by simp [RSt.peeked, hl]
      rw [e1, e2, e3]
      have H := Lib.hid h
      clear e1 e2 e3 h0 hz h
      go_enter Tryz.func97, Tryz.ntmps97
      go_wp2
      go_loop [6, 30] (fun n i => ∃ k : Nat, k ≤ K ∧ i = .int .i64 k ∧ n = .int .u64 (beN st.rest k)) (fun _ i => K - (intOf i).toNat)
      case atStart => exact ⟨0, Nat.zero_le _, rfl, rfl⟩
      case round =>
        obtain ⟨k, hk, rfl, rfl⟩ := hrel
        by_cases hlt : k < K
        · have hks : k < st.rest.size := by omega
          have hb := beN_bound st.rest k
          have hs := beN_succ st.rest k hks
          generalize beN st.rest k = x at hb hs
          have hp : (256 : Int) ^ k ≤ 72057594037927936 := by
            have : k ≤ 7 := by omega
            rcases (by omega : k = 0 ∨ k = 1 ∨ k = 2 ∨ k = 3 ∨ k = 4 ∨ k = 5 ∨ k = 6 ∨ k = 7) with h | h | h | h | h | h | h | h <;> subst h <;> decide
          have hor := or_byte x st.rest[k].toNat hb.1 (by omega) (UInt8.toNat_lt _)
          have HS := Lib.hid hs
          have HO := Lib.hid hor
          clear hs hp hor hb
          go_wp2
          exact ⟨⟨k + 1, by omega, by go_num, by rw [HO.out, HS.out]⟩, by simp [intOf]; omega⟩
        · obtain rfl : k = K := by omega
          go_wp2
          go_ret2
          exact ⟨rfl, Fr.refl _ _, rfl, H.out⟩
  · have e1 : st.peekOk K = false := by simp [RSt.peekOk, h0]
    have e2 : st.peekV K = 0 := by simp [RSt.peekV, e1]
    have e3 : st.peeked K = st := by simp [RSt.peeked, h0]
    rw [e1, e2, e3]
    rw [hz] at c1
    have H := Lib.hid h
    clear e1 e2 e3 h0 hz h c0
    go_enter Tryz.func97, Tryz.ntmps97
    go_wp2
    go_ret2
    exact ⟨rfl, Fr.refl _ _, rfl, H.out⟩

end Go.Proofs.YtlcjfafmmoncpaaGreatDoor
