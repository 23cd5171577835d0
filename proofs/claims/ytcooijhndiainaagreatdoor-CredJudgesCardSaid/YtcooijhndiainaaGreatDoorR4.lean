/- The document's Reader (callboxref02): it does what the Reader of package xdr does. -/
import Derived.Test.YtcooijhndiainaaGreatDoorRt
import Derived.Test.YtcooijhndiainaaGreatDoorR3
namespace Go.Proofs.YtcooijhndiainaaGreatDoor
open Go.RowKit

/-- the document's Reader. -/
structure RRd (w : World) (b : Nat) (st : RSt) : Prop where
  blk : w.heap[b]? = some (.cells #[.string st.rest, .int .i64 st.e] 138 (0, 0))
  size : st.rest.size ≤ 1099511627776
theorem RRd.keep {w w' : World} {b : Nat} {st : RSt} (h : RRd w b st) (hk : w'.heap[b]? = w.heap[b]?) : RRd w' b st := ⟨hk.trans h.blk, h.size⟩
theorem RRd.lt {w : World} {b : Nat} {st : RSt} (h : RRd w b st) : b < w.heap.size := lt_of_block h.blk
theorem RRd.fr {w w' : World} {S : Nat → Prop} {b : Nat} {st : RSt} (h : RRd w b st) (hf : Fr S w w') (hs : ¬ S b) : RRd w' b st := h.keep (hf.block _ h.lt hs)

theorem rRNew_any (s : ByteArray) (w : World) (hs : s.size ≤ 1099511627776) :
    Calls Tryz.prog 59 #[.string s] w fun r w' => r = .returned (.pointer (some ⟨w.heap.size, 0, none⟩)) ∧ Fr (fun _ => False) w w' ∧ RRd w' w.heap.size ⟨s, 0⟩ := by
  go_enter Tryz.func59, Tryz.ntmps59
  go_wp2
  go_ret
  exact ⟨rfl, (Fr.refl _ _).alloc _, heap_alloc_new w _, hs⟩

theorem RRd.set {w : World} {b : Nat} {st : RSt} (h : RRd w b st) (hz : st.e = 0) {n : Int} : RRd (w.setCell ⟨b, 1, none⟩ (.int .i64 n)) b (st.fail n) := by
  rw [show st.fail n = { st with e := n } by simp [RSt.fail, hz]]
  exact ⟨(setOf' h.blk 1 _).trans (by simp), h.size⟩
theorem Fr.set1 (w : World) (b i : Nat) (v : Value) : Fr (fun k => k = b) w (w.setCell ⟨b, i, none⟩ v) :=
  Fr.setCell (S := fun k => k = b) (p := ⟨b, i, none⟩) (Fr.refl _ _) (.inl rfl) _

set_option maxRecDepth 100000 in
theorem rRFail_any {b : Nat} {st : RSt} (n : Int) (w : World) (h : RRd w b st) :
    Calls Tryz.prog 136 #[.pointer (some ⟨b, 0, none⟩), .int .i64 n] w fun r w' => r = .returned (.tuple #[]) ∧ Fr (fun k => k = b) w w' ∧ RRd w' b (st.fail n) := by
  have c1 := cellOf h.blk 1
  have f1 := freeOf h.blk 1
  simp at c1
  by_cases he : st.e = 0
  · have hs := h.set he (n := n)
    have hb : (st.e == 0) = true := by simpa using he
    have H := Lib.hid hs
    clear he h hs
    go_enter Tryz.func136, Tryz.ntmps136
    go_wp2
    go_end0
    exact ⟨rfl, Fr.set1 _ _ _ _, H.out⟩
  · rw [fail_bad he]
    have hb : (st.e == 0) = false := by simpa using he
    have H := Lib.hid h
    clear he h
    go_enter Tryz.func136, Tryz.ntmps136
    go_wp2
    go_end0
    exact ⟨rfl, Fr.refl _ _, H.out⟩

theorem rWrong_any {b : Nat} {st : RSt} (w : World) (h : RRd w b st) :
    Calls Tryz.prog 116 #[.pointer (some ⟨b, 0, none⟩)] w fun r w' => r = .returned (.int .i64 st.e) ∧ w = w' := by
  have c1 := cellOf h.blk 1
  simp at c1
  go_enter Tryz.func116, Tryz.ntmps116
  go_wp2
  go_ret
  exact ⟨rfl, rfl⟩

theorem rRDone_any {b : Nat} {st : RSt} (w : World) (h : RRd w b st) :
    Calls Tryz.prog 61 #[.pointer (some ⟨b, 0, none⟩)] w fun r w' => r = .returned (.int .i64 st.doneV) ∧ Fr (fun _ => False) w w' := by
  have c0 := cellOf h.blk 0
  have c1 := cellOf h.blk 1
  simp at c0 c1
  clear h
  by_cases he : st.e = 0
  · have hb : (st.e == 0) = true := by simpa using he
    by_cases hs : st.rest.size = 0
    · have hd : st.doneV = st.e := by simp [RSt.doneV, hs]
      have hse : st.rest.toList.isEmpty = true := by rw [isEmpty_size]; simp [hs]
      rw [hd]
      clear he hs hd
      go_enter Tryz.func61, Tryz.ntmps61
      go_wp2
      go_ret
      exact ⟨rfl, Fr.refl _ _⟩
    · have hd : st.doneV = 21 := by simp [RSt.doneV, hs, he]
      have hse : st.rest.toList.isEmpty = false := by rw [isEmpty_size]; simp [hs]
      rw [hd]
      clear he hs hd
      go_enter Tryz.func61, Tryz.ntmps61
      go_wp2
      go_ret
      exact ⟨rfl, Fr.refl _ _⟩
  · have hb : (st.e == 0) = false := by simpa using he
    have hd : st.doneV = st.e := by simp [RSt.doneV, he]
    rw [hd]
    clear he hd
    go_enter Tryz.func61, Tryz.ntmps61
    go_wp2
    go_ret
    exact ⟨rfl, Fr.refl _ _⟩

set_option maxRecDepth 100000 in
theorem there_any {b : Nat} {st : RSt} (n : Nat) (w : World) (h : RRd w b st) :
    Calls Tryz.prog 105 #[.pointer (some ⟨b, 0, none⟩), .int .i64 n] w fun r w' => r = .returned (.bool (decide ((st.peeked n).e = 0))) ∧ Fr (fun k => k = b) w w' ∧ RRd w' b (st.peeked n) := by
  have c0 := cellOf h.blk 0
  have c1 := cellOf h.blk 1
  have f1 := freeOf h.blk 1
  simp at c0 c1
  have hsz := h.size
  by_cases he : st.e = 0
  · have hb : (st.e == 0) = true := by simpa using he
    by_cases hl : st.rest.size < n
    · have hs := h.set he (n := 20)
      have hp : st.peeked n = st.fail 20 := by unfold RSt.peeked; rw [if_pos ⟨he, hl⟩]
      have hd : decide ((st.fail 20).e = 0) = false := by simp [RSt.fail, he]
      rw [hp, hd]
      have H := Lib.hid hs
      clear he h hs hp hd
      go_enter Tryz.func105, Tryz.ntmps105
      go_wp2
      go_ret
      exact ⟨rfl, Fr.set1 _ _ _ _, H.out⟩
    · have hp : st.peeked n = st := by unfold RSt.peeked; rw [if_neg (fun h => hl h.2)]
      have hd : decide (st.e = 0) = true := by simpa using he
      rw [hp, hd]
      have H := Lib.hid h
      clear he h hp hd
      have hl := Nat.not_lt.1 hl
      go_enter Tryz.func105, Tryz.ntmps105
      go_wp2
      go_ret
      exact ⟨rfl, Fr.refl _ _, H.out⟩
  · rw [peeked_bad he]
    have hb : (st.e == 0) = false := by simpa using he
    have hd : decide (st.e = 0) = false := by simpa using he
    rw [hd]
    have H := Lib.hid h
    clear he h hd
    go_enter Tryz.func105, Tryz.ntmps105
    go_wp2
    go_ret
    exact ⟨rfl, Fr.refl _ _, H.out⟩

set_option maxRecDepth 100000 in
theorem rTakes_any {b : Nat} {st : RSt} (n : Nat) (w : World) (h : RRd w b st) (hn : n ≤ st.rest.size) :
    Calls Tryz.prog 106 #[.pointer (some ⟨b, 0, none⟩), .int .i64 n] w fun r w' => r = .returned (.string (st.rest.extract 0 n)) ∧ Fr (fun k => k = b) w w' ∧ RRd w' b (st.drop n) := by
  have c0 := cellOf h.blk 0
  have f0 := freeOf h.blk 0
  simp at c0
  have hsz := h.size
  have H := Lib.hid h
  clear h
  go_enter Tryz.func106, Tryz.ntmps106
  go_wp2
  go_ret
  refine ⟨rfl, Fr.set1 _ _ _ _, (setOf' H.out.blk 0 _).trans (by simp [RSt.drop]), ?_⟩
  show (st.rest.extract n st.rest.size).size ≤ _
  simp
  omega

theorem wrap64_mod (z : Int) : wrap64 z % 18446744073709551616 = z % 18446744073709551616 := by
  unfold wrap64; omega
theorem wrap64_eq {a b : Int} (h : a % 18446744073709551616 = b % 18446744073709551616) : wrap64 a = wrap64 b := by
  unfold wrap64; omega
theorem i64_or_byte (x : Int) (b : Nat) (hb : b < 256) : bits .or .i64 (wrap64 (x * 256)) (b : Int) = wrap64 (x * 256 + b) := by
  have h1 : (BitVec.ofInt 64 (wrap64 (x * 256))).toNat = (x * 256 % 18446744073709551616).toNat := by
    rw [BitVec.toNat_ofInt]
    have := wrap64_mod (x * 256)
    simpa using congrArg Int.toNat this
  have h2 : (BitVec.ofInt 64 (b : Int)).toNat = b := by
    rw [BitVec.ofInt_natCast, BitVec.toNat_ofNat]; exact Nat.mod_eq_of_lt (by omega)
  have key : (BitVec.ofInt 64 (wrap64 (x * 256)) ||| BitVec.ofInt 64 (b : Int)).toNat = (x * 256 % 18446744073709551616).toNat + b := by
    rw [BitVec.toNat_or, h1, h2, nat_join 8 _ _ (by omega) (by omega)]
  show IntKind.i64.wrap ((BitVec.ofInt 64 (wrap64 (x * 256)) ||| BitVec.ofInt 64 (b : Int)).toNat : Nat) = _
  rw [key, IntKind.wrap_i64]
  unfold wrap64
  omega

set_option maxRecDepth 100000 in
theorem Number_any (s : ByteArray) (w : World) (hs : s.size ≤ 8) :
    Calls Tryz.prog 107 #[.string s] w fun r w' => r = .returned (.int .i64 (wrap64 (beN s s.size))) ∧ w = w' := by
  go_enter Tryz.func107, Tryz.ntmps107
  go_wp2
  go_loop [3, 4] (fun n i => ∃ k : Nat, k ≤ s.size ∧ i = .int .i64 k ∧ n = .int .i64 (wrap64 (beN s k))) (fun _ i => s.size - (intOf i).toNat)
  case atStart => exact ⟨0, Nat.zero_le _, rfl, by simp [beN, wrap64]⟩
  case round =>
    obtain ⟨k, hk, rfl, rfl⟩ := hrel
    by_cases hlt : k < s.size
    · have hs := beN_succ s k hlt
      generalize beN s k = x at *
      have hbb := UInt8.toNat_lt s[k]
      have HS := Lib.hid hs
      clear hs
      generalize hy : wrap64 x = y
      have HY := Lib.hid hy
      clear hy
      go_wp2
      refine ⟨⟨k + 1, by omega, by go_num, ?_⟩, by simp [intOf]; omega⟩
      rw [i64_or_byte y _ hbb, HS.out, ← HY.out]
      congr 1
      apply wrap64_eq
      have := wrap64_mod x
      omega
    · obtain rfl : s.size = k := by omega
      go_wp2
      go_ret
      exact ⟨rfl, rfl⟩
end Go.Proofs.YtcooijhndiainaaGreatDoor
