/- The document's Reader (callboxref02): it does what the Reader of package xdr does. -/
import Derived.Test.YtbegjpmifcnieaaGreatDoorRt
import Derived.Test.YtbegjpmifcnieaaGreatDoorR2
import Derived.Deep.RegionHeld3
import Derived.IntWalk
namespace Go.Proofs.YtbegjpmifcnieaaGreatDoor
open Go.RowKit
set_option linter.unusedVariables false
set_option linter.unusedSimpArgs false

/-- the document's Reader. -/
structure RRd (w : World) (b : Nat) (st : RSt) : Prop where
  blk : w.heap[b]? = some (.cells #[.string st.rest, .int .i64 st.e] 363 (0, 0))
  size : st.rest.size ≤ 140737488351232
theorem RRd.keep {w w' : World} {b : Nat} {st : RSt} (h : RRd w b st) (hk : w'.heap[b]? = w.heap[b]?) : RRd w' b st := ⟨hk.trans h.blk, h.size⟩
theorem RRd.lt {w : World} {b : Nat} {st : RSt} (h : RRd w b st) : b < w.heap.size := lt_of_block h.blk
theorem RRd.fr {w w' : World} {S : Nat → Prop} {b : Nat} {st : RSt} (h : RRd w b st) (hf : Fr S w w') (hs : ¬ S b) : RRd w' b st := h.keep (hf.block _ h.lt hs)

theorem rRNew_any (s : ByteArray) (w : World) (hs : s.size ≤ 140737488351232) :
    Calls Tryz.prog 223 #[.string s] w fun r w' => r = .returned (.pointer (some ⟨w.heap.size, 0, none⟩)) ∧ Fr (fun _ => False) w w' ∧ RRd w' w.heap.size ⟨s, 0⟩ := by
  go_enter Tryz.func223, Tryz.ntmps223
  go_wp2
  go_ret
  exact ⟨rfl, (Fr.refl _ _).alloc _, heap_alloc_new w _, hs⟩

theorem RRd.set {w : World} {b : Nat} {st : RSt} (h : RRd w b st) (hz : st.e = 0) {n : Int} : RRd (w.setCell ⟨b, 1, none⟩ (.int .i64 n)) b (st.fail n) := by
  rw [show st.fail n = { st with e := n } by simp [RSt.fail, hz]]
  exact ⟨(setOf' h.blk 1 _).trans (by simp), h.size⟩
theorem Fr.set1 (w : World) (b i : Nat) (v : Value) : Fr (fun k => k = b) w (w.setCell ⟨b, i, none⟩ v) :=
  Fr.setCell (S := fun k => k = b) (p := ⟨b, i, none⟩) (Fr.refl _ _) (.inl rfl) _

set_option maxRecDepth 100000 in
theorem rRFail_any {b : Nat} {st : RSt} (n : Int) (w : World) (h : RRd w b st) :
    Calls Tryz.prog 295 #[.pointer (some ⟨b, 0, none⟩), .int .i64 n] w fun r w' => r = .returned (.tuple #[]) ∧ Fr (fun k => k = b) w w' ∧ RRd w' b (st.fail n) := by
  have c1 := cellOf h.blk 1
  have f1 := freeOf h.blk 1
  simp at c1
  by_cases he : st.e = 0
  · have hs := h.set he (n := n)
    have hb : (st.e == 0) = true := by simpa using he
    have H := Lib.hid hs
    clear he h hs
    go_enter Tryz.func295, Tryz.ntmps295
    go_wp2
    go_end0
    exact ⟨rfl, Fr.set1 _ _ _ _, H.out⟩
  · rw [fail_bad he]
    have hb : (st.e == 0) = false := by simpa using he
    have H := Lib.hid h
    clear he h
    go_enter Tryz.func295, Tryz.ntmps295
    go_wp2
    go_end0
    exact ⟨rfl, Fr.refl _ _, H.out⟩

theorem rWrong_any {b : Nat} {st : RSt} (w : World) (h : RRd w b st) :
    Calls Tryz.prog 225 #[.pointer (some ⟨b, 0, none⟩)] w fun r w' => r = .returned (.int .i64 st.e) ∧ w = w' := by
  have c1 := cellOf h.blk 1
  simp at c1
  go_enter Tryz.func225, Tryz.ntmps225
  go_wp2
  go_ret
  exact ⟨rfl, rfl⟩

theorem rRDone_any {b : Nat} {st : RSt} (w : World) (h : RRd w b st) :
    Calls Tryz.prog 261 #[.pointer (some ⟨b, 0, none⟩)] w fun r w' => r = .returned (.int .i64 st.doneV) ∧ Fr (fun _ => False) w w' := by
  have c0 := cellOf h.blk 0
  have c1 := cellOf h.blk 1
  simp at c0 c1
  clear h
  by_cases he : st.e = 0
  · have hb : (st.e == 0) = true := by simpa using he
    by_cases hs : st.rest.size = 0
    · have hd : st.doneV = st.e := by simp [RSt.doneV, hs]
      have hse : st.rest.toList.isEmpty = true := by rw [isEmpty_size]; simp [hs]
      rw [hd]
      clear he hs hd
      go_enter Tryz.func261, Tryz.ntmps261
      go_wp2
      go_ret
      exact ⟨rfl, Fr.refl _ _⟩
    · have hd : st.doneV = 21 := by simp [RSt.doneV, hs, he]
      have hse : st.rest.toList.isEmpty = false := by rw [isEmpty_size]; simp [hs]
      rw [hd]
      clear he hs hd
      go_enter Tryz.func261, Tryz.ntmps261
      go_wp2
      go_ret
      exact ⟨rfl, Fr.refl _ _⟩
  · have hb : (st.e == 0) = false := by simpa using he
    have hd : st.doneV = st.e := by simp [RSt.doneV, he]
    rw [hd]
    clear he hd
    go_enter Tryz.func261, Tryz.ntmps261
    go_wp2
    go_ret
    exact ⟨rfl, Fr.refl _ _⟩

set_option maxRecDepth 100000 in
theorem there_any {b : Nat} {st : RSt} (n : Nat) (w : World) (h : RRd w b st) :
    Calls Tryz.prog 254 #[.pointer (some ⟨b, 0, none⟩), .int .i64 n] w fun r w' => r = .returned (.bool (decide ((st.peeked n).e = 0))) ∧ Fr (fun k => k = b) w w' ∧ RRd w' b (st.peeked n) := by
  have c0 := cellOf h.blk 0
  have c1 := cellOf h.blk 1
  have f1 := freeOf h.blk 1
  simp at c0 c1
  have hsz := h.size
  by_cases he : st.e = 0
  · have hb : (st.e == 0) = true := by simpa using he
    by_cases hl : st.rest.size < n
    · have hs := h.set he (n := 20)
      have hp : st.peeked n = st.fail 20 := by unfold RSt.peeked; rw [if_pos ⟨he, hl⟩]
      have hd : decide ((st.fail 20).e = 0) = false := by simp [RSt.fail, he]
      rw [hp, hd]
      have H := Lib.hid hs
      clear he h hs hp hd
      go_enter Tryz.func254, Tryz.ntmps254
      go_wp2
      go_ret
      exact ⟨rfl, Fr.set1 _ _ _ _, H.out⟩
    · have hp : st.peeked n = st := by unfold RSt.peeked; rw [if_neg (fun h => hl h.2)]
      have hd : decide (st.e = 0) = true := by simpa using he
      rw [hp, hd]
      have H := Lib.hid h
      clear he h hp hd
      have hl := Nat.not_lt.1 hl
      go_enter Tryz.func254, Tryz.ntmps254
      go_wp2
      go_ret
      exact ⟨rfl, Fr.refl _ _, H.out⟩
  · rw [peeked_bad he]
    have hb : (st.e == 0) = false := by simpa using he
    have hd : decide (st.e = 0) = false := by simpa using he
    rw [hd]
    have H := Lib.hid h
    clear he h hd
    go_enter Tryz.func254, Tryz.ntmps254
    go_wp2
    go_ret
    exact ⟨rfl, Fr.refl _ _, H.out⟩

set_option maxRecDepth 100000 in
theorem rTakes_any {b : Nat} {st : RSt} (n : Nat) (w : World) (h : RRd w b st) (hn : n ≤ st.rest.size) :
    Calls Tryz.prog 255 #[.pointer (some ⟨b, 0, none⟩), .int .i64 n] w fun r w' => r = .returned (.string (st.rest.extract 0 n)) ∧ Fr (fun k => k = b) w w' ∧ RRd w' b (st.drop n) := by
  have c0 := cellOf h.blk 0
  have f0 := freeOf h.blk 0
  simp at c0
  have hsz := h.size
  have H := Lib.hid h
  clear h
  go_enter Tryz.func255, Tryz.ntmps255
  go_wp2
  go_ret
  refine ⟨rfl, Fr.set1 _ _ _ _, (setOf' H.out.blk 0 _).trans (by simp [RSt.drop]), ?_⟩
  show (st.rest.extract n st.rest.size).size ≤ _
  simp
  omega

theorem wrap64_mod (z : Int) : wrap64 z % 18446744073709551616 = z % 18446744073709551616 := by
  unfold wrap64; omega
theorem wrap64_eq {a b : Int} (h : a % 18446744073709551616 = b % 18446744073709551616) : wrap64 a = wrap64 b := by
  unfold wrap64; omega
theorem i64_or_byte (x : Int) (b : Nat) (hb : b < 256) : bits .or .i64 (wrap64 (x * 256)) (b : Int) = wrap64 (x * 256 + b) := by
  have h1 : (BitVec.ofInt 64 (wrap64 (x * 256))).toNat = (x * 256 % 18446744073709551616).toNat := by
    rw [BitVec.toNat_ofInt]
    have := wrap64_mod (x * 256)
    simpa using congrArg Int.toNat this
  have h2 : (BitVec.ofInt 64 (b : Int)).toNat = b := by
    rw [BitVec.ofInt_natCast, BitVec.toNat_ofNat]; exact Nat.mod_eq_of_lt (by omega)
  have key : (BitVec.ofInt 64 (wrap64 (x * 256)) ||| BitVec.ofInt 64 (b : Int)).toNat = (x * 256 % 18446744073709551616).toNat + b := by
    rw [BitVec.toNat_or, h1, h2, nat_join 8 _ _ (by omega) (by omega)]
  show IntKind.i64.wrap ((BitVec.ofInt 64 (wrap64 (x * 256)) ||| BitVec.ofInt 64 (b : Int)).toNat : Nat) = _
  rw [key, IntKind.wrap_i64]
  unfold wrap64
  omega

set_option maxRecDepth 100000 in
theorem Number_any (s : ByteArray) (w : World) (hs : s.size ≤ 8) :
    Calls Tryz.prog 256 #[.string s] w fun r w' => r = .returned (.int .i64 (wrap64 (beN s s.size))) ∧ w = w' := by
  go_enter Tryz.func256, Tryz.ntmps256
  go_wp2
  go_loop [3, 4] (fun n i => ∃ k : Nat, k ≤ s.size ∧ i = .int .i64 k ∧ n = .int .i64 (wrap64 (beN s k))) (fun _ i => s.size - (intOf i).toNat)
  case atStart => exact ⟨0, Nat.zero_le _, rfl, by simp [beN, wrap64]⟩
  case round =>
    obtain ⟨k, hk, rfl, rfl⟩ := hrel
    by_cases hlt : k < s.size
    · have hs := beN_succ s k hlt
      generalize beN s k = x at *
      have hbb := UInt8.toNat_lt s[k]
      have HS := Lib.hid hs
      clear hs
      generalize hy : wrap64 x = y
      have HY := Lib.hid hy
      clear hy
      go_wp2
      refine ⟨⟨k + 1, by omega, by go_num, ?_⟩, by simp [intOf]; omega⟩
      rw [i64_or_byte y _ hbb, HS.out, ← HY.out]
      congr 1
      apply wrap64_eq
      have := wrap64_mod x
      omega
    · obtain rfl : s.size = k := by omega
      go_wp2
      go_ret
      exact ⟨rfl, rfl⟩
end Go.Proofs.YtbegjpmifcnieaaGreatDoor

/- The document's Reader (callboxref02): numbers, counts, texts, the rest. -/
namespace Go.Proofs.YtbegjpmifcnieaaGreatDoor
open Go.RowKit
set_option linter.unusedVariables false
set_option linter.unusedSimpArgs false

theorem beN_extract (s : ByteArray) (k : Nat) (h : k ≤ s.size) : beN (s.extract 0 k) (s.extract 0 k).size = beN s k := by
  unfold beN
  have e : (s.extract 0 k).data.toList = s.data.toList.take k := by
    simp [ByteArray.data_extract]
  rw [e, List.take_of_length_le]
  simp
theorem extract_size0 (s : ByteArray) (k : Nat) (h : k ≤ s.size) : (s.extract 0 k).size = k := by simp; omega
theorem wrap64_small {n : Int} (h0 : 0 ≤ n) (h1 : n < 4294967296) : wrap64 n = n := by unfold wrap64; omega
theorem Number_front {s : ByteArray} {k : Nat} (w : World) (h : k ≤ s.size) (hk : k ≤ 8) :
    Calls Tryz.prog 256 #[.string (s.extract 0 k)] w fun r w' => r = .returned (.int .i64 (wrap64 (beN s k))) ∧ w = w' := by
  have := Number_any (s.extract 0 k) w (by rw [extract_size0 s k h]; exact hk)
  rwa [beN_extract s k h] at this

theorem peeked_bad_e {st : RSt} {n : Nat} (h : (st.peeked n).e ≠ 0) : st.peekV n = 0 := by
  unfold RSt.peeked at h
  split at h
  · rename_i hc
    simp [RSt.peekV, RSt.peekOk]; omega
  · exact peekV_bad h n
theorem peeked_good {st : RSt} {n : Nat} (h : (st.peeked n).e = 0) : st.peeked n = st ∧ n ≤ st.rest.size ∧ st.e = 0 ∧ st.peekV n = beN st.rest n := by
  obtain ⟨h1, h2⟩ := peeked_ok h
  have e : st.peeked n = st := by
    unfold RSt.peeked
    rw [if_neg]
    rintro ⟨_, hl⟩
    have : (st.peeked n).rest = st.rest := by unfold RSt.peeked; split <;> first | exact fail_rest | rfl
    rw [this] at h2
    omega
  rw [e] at h2
  exact ⟨e, h2, h1, by simp [RSt.peekV, RSt.peekOk, h1, h2]⟩

set_option maxRecDepth 100000 in
theorem rRUint_any {b : Nat} {st : RSt} (w : World) (h : RRd w b st) :
    Calls Tryz.prog 224 #[.pointer (some ⟨b, 0, none⟩)] w fun r w' => r = .returned (.int .i64 st.uintV) ∧ Fr (fun k => k = b) w w' ∧ RRd w' b st.uint := by
  have ht := Lib.hid (there_any 4 w h)
  by_cases he : (st.peeked 4).e = 0
  · obtain ⟨e1, e2, e3, e4⟩ := peeked_good he
    have hd : decide ((st.peeked 4).e = 0) = true := by simpa using he
    have hv : wrap64 (beN st.rest 4) = st.uintV := by
      have := beN_bound st.rest 4
      unfold RSt.uintV; rw [e4]; exact wrap64_small this.1 this.2
    have hs : st.uint = st.drop 4 := by unfold RSt.uint RSt.takes; rw [e1, if_pos e3]
    rw [hd, e1] at ht
    have HN := fun w => Lib.hid (Number_front (s := st.rest) (k := 4) w e2 (by decide))
    rw [hv] at HN
    rw [hs]
    have E2 := Lib.hid e2
    clear e1 e2 e3 e4 hd hv hs he h
    go_enter Tryz.func224, Tryz.ntmps224
    go_wp2_with (first | (go_at_call 254; refine ht.out.mono ?_; rintro e w1 ⟨rfl, hf1, h1⟩) | (go_at_call 255; refine (rTakes_any 4 _ h1 E2.out).mono ?_; rintro e w2 ⟨rfl, hf2, h2⟩) | (go_at_call 256; refine (HN _).out.mono ?_; rintro e w3 ⟨rfl, rfl⟩))
    go_ret
    exact ⟨rfl, hf1.trans hf2, h2⟩
  · have hd : decide ((st.peeked 4).e = 0) = false := by simpa using he
    have hv : st.uintV = 0 := peeked_bad_e he
    have hs : st.uint = st.peeked 4 := by unfold RSt.uint RSt.takes; rw [if_neg he]
    rw [hd] at ht
    rw [hs, hv]
    clear hd hv hs he h
    go_enter Tryz.func224, Tryz.ntmps224
    go_wp2_with (go_at_call 254; refine ht.out.mono ?_; rintro e w1 ⟨rfl, hf1, h1⟩)
    go_ret
    exact ⟨rfl, hf1, h1⟩

set_option maxRecDepth 100000 in
theorem rRHyper_any {b : Nat} {st : RSt} (w : World) (h : RRd w b st) :
    Calls Tryz.prog 259 #[.pointer (some ⟨b, 0, none⟩)] w fun r w' => r = .returned (.int .i64 st.hyperV) ∧ Fr (fun k => k = b) w w' ∧ RRd w' b st.hyper := by
  have ht := Lib.hid (there_any 8 w h)
  by_cases he : (st.peeked 8).e = 0
  · obtain ⟨e1, e2, e3, e4⟩ := peeked_good he
    have hd : decide ((st.peeked 8).e = 0) = true := by simpa using he
    have hv : wrap64 (beN st.rest 8) = st.hyperV := by unfold RSt.hyperV; rw [e4]
    have hs : st.hyper = st.drop 8 := by unfold RSt.hyper RSt.takes; rw [e1, if_pos e3]
    rw [hd, e1] at ht
    have HN := fun w => Lib.hid (Number_front (s := st.rest) (k := 8) w e2 (by decide))
    rw [hv] at HN
    rw [hs]
    have E2 := Lib.hid e2
    clear e1 e2 e3 e4 hd hv hs he h
    go_enter Tryz.func259, Tryz.ntmps259
    go_wp2_with (first | (go_at_call 254; refine ht.out.mono ?_; rintro e w1 ⟨rfl, hf1, h1⟩) | (go_at_call 255; refine (rTakes_any 8 _ h1 E2.out).mono ?_; rintro e w2 ⟨rfl, hf2, h2⟩) | (go_at_call 256; refine (HN _).out.mono ?_; rintro e w3 ⟨rfl, rfl⟩))
    go_ret
    exact ⟨rfl, hf1.trans hf2, h2⟩
  · have hd : decide ((st.peeked 8).e = 0) = false := by simpa using he
    have hv : st.hyperV = 0 := by unfold RSt.hyperV; rw [peeked_bad_e he]; simp [wrap64]
    have hs : st.hyper = st.peeked 8 := by unfold RSt.hyper RSt.takes; rw [if_neg he]
    rw [hd] at ht
    rw [hs, hv]
    clear hd hv hs he h
    go_enter Tryz.func259, Tryz.ntmps259
    go_wp2_with (go_at_call 254; refine ht.out.mono ?_; rintro e w1 ⟨rfl, hf1, h1⟩)
    go_ret
    exact ⟨rfl, hf1, h1⟩

set_option maxRecDepth 100000 in
theorem rRRest_any {b : Nat} {st : RSt} (w : World) (h : RRd w b st) :
    Calls Tryz.prog 227 #[.pointer (some ⟨b, 0, none⟩)] w fun r w' => r = .returned (.string st.restV) ∧ Fr (fun k => k = b) w w' ∧ RRd w' b st.restS := by
  have c0 := cellOf h.blk 0
  have c1 := cellOf h.blk 1
  simp at c0 c1
  have hsz := h.size
  have H := Lib.hid h
  clear h
  by_cases he : st.e = 0
  · have hb : (st.e != 0) = false := by simpa using he
    have ex : st.rest.extract 0 st.rest.size = st.rest := by simp
    rw [show st.restV = st.rest.extract 0 st.rest.size from if_pos he, show st.restS = st.drop st.rest.size from if_pos he, ex]
    have ht := fun w (h : RRd w b st) => rTakes_any st.rest.size w h (Nat.le_refl _)
    rw [ex] at ht
    have HT := Lib.hid ht
    clear he ex ht
    go_enter Tryz.func227, Tryz.ntmps227
    go_wp2_with (go_at_call 255; refine (HT.out _ H.out).mono ?_; rintro e w2 ⟨rfl, hf2, h2⟩)
    go_ret
    exact ⟨rfl, hf2, h2⟩
  · have hb : (st.e != 0) = true := by simpa using he
    rw [show st.restV = ByteArray.empty from if_neg he, show st.restS = st from if_neg he]
    clear he
    go_enter Tryz.func227, Tryz.ntmps227
    go_wp2
    go_ret
    exact ⟨rfl, Fr.refl _ _, H.out⟩

set_option maxRecDepth 100000 in
set_option maxHeartbeats 2000000 in
theorem counted_any {b : Nat} {st : RSt} (most : Int) (w : World) (h : RRd w b st) :
    Calls Tryz.prog 275 #[.pointer (some ⟨b, 0, none⟩), .int .i64 most] w fun r w' => r = .returned (.tuple #[.int .i64 (st.manyV most), .bool (decide ((st.manyS most).e = 0))]) ∧ Fr (fun k => k = b) w w' ∧ RRd w' b (st.manyS most) := by
  by_cases hw : isWordB most = true
  · have hm0 : 0 ≤ most := by simp [isWordB] at hw; omega
    have e1 : st.worded most = st := if_pos hw
    have ht := Lib.hid (there_any 4 w h)
    by_cases he : (st.peeked 4).e = 0
    · obtain ⟨e2, e3, e4, e5⟩ := peeked_good he
      have hd : decide ((st.peeked 4).e = 0) = true := by simpa using he
      rw [hd, e2] at ht
      have hbn := beN_bound st.rest 4
      have hbn2 : 0 ≤ beN st.rest 4 ∧ beN st.rest 4 < 4294967296 := hbn
      have HN := fun w => Lib.hid (Number_front (s := st.rest) (k := 4) w e3 (by decide))
      rw [wrap64_small hbn2.1 hbn2.2] at HN
      have hSd : st.manyS most = if most < beN st.rest 4 then st.fail 23 else st := by unfold RSt.manyS; rw [e1, e2, e5]
      by_cases hm : most < beN st.rest 4
      · have hS : st.manyS most = st.fail 23 := by rw [hSd, if_pos hm]
        have hV : st.manyV most = 0 := by unfold RSt.manyV; rw [hS, if_neg (fail_e (by decide))]
        have hD : decide ((st.fail 23).e = 0) = false := by rw [decide_eq_false_iff_not]; exact fail_e (by decide)
        rw [hS, hV, hD]
        have E4 := Lib.hid e4
        have hsz := Lib.hid e3
        generalize beN st.rest 4 = N at *
        have h4 : 4 ≤ st.rest.size := e3
        clear e1 e2 e3 e4 e5 hd he hbn hSd hS hV hD h
        go_enter Tryz.func275, Tryz.ntmps275
        go_wp2_with (first | (go_at_call 198; refine (rword_any _ _).mono ?_; rintro e w' ⟨rfl, rfl⟩) | (go_at_call 254; refine ht.out.mono ?_; rintro e w1 ⟨rfl, hf1, h1⟩; have c0 := cellOf h1.blk 0; have c1 := cellOf h1.blk 1; have f1 := freeOf h1.blk 1; simp at c0 c1) | (go_at_call 256; refine (HN _).out.mono ?_; rintro e w3 ⟨rfl, rfl⟩))
        go_ret2
        exact ⟨rfl, hf1.trans (Fr.set1 _ _ _ _), h1.set E4.out⟩
      · have hS : st.manyS most = st := by rw [hSd, if_neg hm]
        have hV : st.manyV most = beN st.rest 4 := by unfold RSt.manyV; rw [hS, if_pos e4, e1, e5]
        have hD : decide (st.e = 0) = true := by simpa using e4
        rw [hS, hV, hD]
        have hm := Int.not_lt.1 hm
        have h4 : 4 ≤ st.rest.size := e3
        generalize beN st.rest 4 = N at *
        clear e1 e2 e3 e4 e5 hd he hbn hSd hS hV hD h
        go_enter Tryz.func275, Tryz.ntmps275
        go_wp2_with (first | (go_at_call 198; refine (rword_any _ _).mono ?_; rintro e w' ⟨rfl, rfl⟩) | (go_at_call 254; refine ht.out.mono ?_; rintro e w1 ⟨rfl, hf1, h1⟩; have c0 := cellOf h1.blk 0; have c1 := cellOf h1.blk 1; have f1 := freeOf h1.blk 1; simp at c0 c1) | (go_at_call 256; refine (HN _).out.mono ?_; rintro e w3 ⟨rfl, rfl⟩))
        go_ret2
        exact ⟨rfl, hf1, h1⟩
    · have hd : decide ((st.peeked 4).e = 0) = false := by simpa using he
      rw [hd] at ht
      have hS : st.manyS most = st.peeked 4 := by unfold RSt.manyS; rw [e1, peeked_bad_e he, if_neg (by omega)]
      have hV : st.manyV most = 0 := by unfold RSt.manyV; rw [hS, if_neg he]
      rw [hS, hV, hd]
      clear e1 hd he hS hV h
      go_enter Tryz.func275, Tryz.ntmps275
      go_wp2_with (first | (go_at_call 198; refine (rword_any _ _).mono ?_; rintro e w' ⟨rfl, rfl⟩) | (go_at_call 254; refine ht.out.mono ?_; rintro e w1 ⟨rfl, hf1, h1⟩))
      go_ret2
      exact ⟨rfl, hf1, h1⟩
  · have e1 : st.worded most = st.fail 22 := if_neg hw
    have hne : (st.fail 22).e ≠ 0 := fail_e (by decide)
    have hS : st.manyS most = st.fail 22 := by
      unfold RSt.manyS
      rw [e1, peeked_bad hne, fail_bad hne]
      split <;> rfl
    have hV : st.manyV most = 0 := by unfold RSt.manyV; rw [hS, if_neg hne]
    have hD : decide ((st.fail 22).e = 0) = false := by simpa using hne
    have ht := fun w (h : RRd w b (st.fail 22)) => there_any 4 w h
    rw [peeked_bad hne, hD] at ht
    have HT := Lib.hid ht
    rw [hS, hV, hD]
    rw [Bool.not_eq_true] at hw
    clear e1 hne hS hV hD ht
    go_enter Tryz.func275, Tryz.ntmps275
    go_wp2_with (first | (go_at_call 198; refine (rword_any _ _).mono ?_; rintro e w' ⟨rfl, rfl⟩) | (go_at_call 295; refine (rRFail_any _ _ h).mono ?_; rintro e w0 ⟨rfl, hf0, h0⟩) | (go_at_call 254; refine (HT.out _ h0).mono ?_; rintro e w1 ⟨rfl, hf1, h1⟩))
    go_ret2
    exact ⟨rfl, hf0.trans hf1, h1⟩

set_option maxRecDepth 100000 in
theorem rRCount_any {b : Nat} {st : RSt} (most : Int) (w : World) (h : RRd w b st) :
    Calls Tryz.prog 277 #[.pointer (some ⟨b, 0, none⟩), .int .i64 most] w fun r w' => r = .returned (.int .i64 (st.manyV most)) ∧ Fr (fun k => k = b) w w' ∧ RRd w' b (st.countS most) := by
  have hc := Lib.hid (counted_any most w h)
  by_cases he : (st.manyS most).e = 0
  · have hd : decide ((st.manyS most).e = 0) = true := by simpa using he
    have hs : st.countS most = (st.manyS most).drop 4 := if_pos he
    have h4 := Lib.hid (manyS_ok he)
    rw [hd] at hc
    rw [hs]
    clear hd hs he h
    go_enter Tryz.func277, Tryz.ntmps277
    go_wp2_with (first | (go_at_call 275; refine hc.out.mono ?_; rintro e w1 ⟨rfl, hf1, h1⟩) | (go_at_call 255; refine (rTakes_any 4 _ h1 h4.out).mono ?_; rintro e w2 ⟨rfl, hf2, h2⟩))
    go_ret
    exact ⟨rfl, hf1.trans hf2, h2⟩
  · have hd : decide ((st.manyS most).e = 0) = false := by simpa using he
    have hs : st.countS most = st.manyS most := if_neg he
    rw [hd] at hc
    rw [hs]
    clear hd hs he h
    go_enter Tryz.func277, Tryz.ntmps277
    go_wp2_with (go_at_call 275; refine hc.out.mono ?_; rintro e w1 ⟨rfl, hf1, h1⟩)
    go_ret
    exact ⟨rfl, hf1, h1⟩
end Go.Proofs.YtbegjpmifcnieaaGreatDoor

/- The document's Reader (callboxref02): texts with their padding. -/
namespace Go.Proofs.YtbegjpmifcnieaaGreatDoor
open Go.RowKit
set_option linter.unusedVariables false
set_option linter.unusedSimpArgs false

theorem Fr.ofDrewR {S : Nat → Prop} {a w : World} (h : Fr S a.drew w) : Fr S a w := ⟨h.os, h.tape, h.output, h.size, h.block⟩
theorem zeros_pad_eq {s : ByteArray} {n : Nat} (hs : s.size = padN n) : (s.toList == (padBA n).toList) = zerosB s := by
  have hl : (padBA n).data.toList = List.replicate (padN n) 0 := by
    have key : ∀ k, Lib.repeatL [0] k = List.replicate k (0 : UInt8) := by
      intro k
      induction k with
      | zero => rfl
      | succ k ih => rw [Lib.repeatL, ih, List.replicate_succ]; rfl
    simp [padBA, key]
  rw [Bool.eq_iff_iff, beq_iff_eq, ByteArray.toList_eq, ByteArray.toList_eq, hl]
  constructor
  · intro h
    unfold zerosB
    rw [h]
    simp
  · intro h
    rw [List.eq_replicate_iff]
    unfold zerosB at h
    rw [List.all_eq_true] at h
    exact ⟨by simpa using hs, fun b hb => by simpa using h b hb⟩

set_option maxRecDepth 100000 in
set_option maxHeartbeats 4000000 in
theorem ropaque_any {b : Nat} {st : RSt} (behind n : Nat) (w : World) (h : RRd w b st) (hn : n ≤ 4294967295) (hbe : behind ≤ 8) :
    Calls Tryz.prog 276 #[.pointer (some ⟨b, 0, none⟩), .int .i64 behind, .int .i64 n] w fun r w' => r = .returned (.string (st.textV behind n)) ∧ Fr (fun k => k = b) w w' ∧ RRd w' b (st.textS behind n) := by
  have hsz := h.size
  obtain ⟨Y, hY⟩ : ∃ Y, Y = padBA n := ⟨_, rfl⟩
  have hq : padN n = Y.size := by rw [hY, padBA_size]
  have hp : Y.size ≤ 3 := by rw [← hq]; exact padN_lt n
  have HP := fun w => Lib.hid (Padding_any n w (by omega))
  rw [← hY] at HP
  have ht := there_any (b := b) (st := st) (behind + n + Y.size)
  rw [show ((behind + n + Y.size : Nat) : Int) = (behind : Int) + n + Y.size by omega] at ht
  have HZ := Lib.hid (@zeros_pad_eq (st.rest.extract (behind + n) (behind + n + Y.size)) n)
  rw [← hY] at HZ
  have HQ := Lib.hid hq
  clear hY hq
  by_cases he : (st.peeked (behind + n + Y.size)).e = 0
  · obtain ⟨e1, e2, e3, _⟩ := peeked_good he
    have hd : decide ((st.peeked (behind + n + Y.size)).e = 0) = true := by simpa using he
    rw [hd, e1] at ht
    have ht0 := fun w h => Lib.hid (ht w h)
    have hK := rTakes_any (b := b) (st := st) (behind + n + Y.size)
    rw [show ((behind + n + Y.size : Nat) : Int) = (behind : Int) + n + Y.size by omega] at hK
    have HK := Lib.hid hK
    have E2 := Lib.hid e2
    have E3 := Lib.hid e3
    have hexx : (st.rest.extract 0 (behind + n + Y.size)).extract behind (behind + n) = st.rest.extract behind (behind + n) := by
      rw [ByteArray.extract_extract]; congr 1 <;> omega
    have HX := Lib.hid hexx
    have b1 : (behind : Int) + n + Y.size ≤ st.rest.size := by omega
    clear ht hd he e1 e2 e3 hK hexx
    go_enter Tryz.func276, Tryz.ntmps276
    go_wp2_with (first | (go_at_call 243; refine (HP _).out.mono ?_; rintro e w0 ⟨rfl, hf0⟩) | (go_at_call 254; refine ((ht0 _ (h.fr hf0 id)).out).mono ?_; rintro e w1 ⟨rfl, hf1, h1⟩))
    have c0 := cellOf h1.blk 0
    simp at c0
    have b2 : (0 : Int) ≤ (behind : Int) + n := by omega
    have b3 : (behind : Int) + n ≤ (behind : Int) + n + Y.size := by omega
    have b4 : ((behind : Int) + n).toNat = behind + n := by omega
    have b5 : ((behind : Int) + n + Y.size).toNat = behind + n + Y.size := by omega
    have b6 : IntKind.i64.wrap ((behind : Int) + n) = (behind : Int) + n := IntWalk.i64_in _ (by omega)
    have b7 : IntKind.i64.wrap ((behind : Int) + n + Y.size) = (behind : Int) + n + Y.size := IntWalk.i64_in _ (by omega)
    go_region_held3 (fun w' => w'.cell? ⟨b, 0, none⟩ = some (.string st.rest)) (exact c0) ((go_at_call 243; refine (HP _).out.mono ?_; rintro e w2 ⟨rfl, hf2⟩; (try have hf2 := Fr.ofDrewR hf2); have h2 : RRd w2 b st := h1.fr hf2 id; have c0 := cellOf h2.blk 0; simp at c0))
    have c1 := cellOf h2.blk 1
    have f0 := freeOf h2.blk 0
    have f1 := freeOf h2.blk 1
    simp at c1
    have hfr : Fr (fun k => k = b) w w2 := (hf0.mono (fun _ _ h => h.elim)).trans (hf1.trans (hf2.mono (fun _ _ h => h.elim)))
    clear b2 b3 b4 b5 b6 b7
    have hsz2 : (st.rest.extract (behind + n) (behind + n + Y.size)).size = padN n := by rw [HQ.out]; simp; have := E2.out; omega
    have hz0 := HZ.out hsz2
    have hpp : (st.rest.extract (behind + n) (behind + n + Y.size)) = st.padPart behind n := by unfold RSt.padPart; rw [HQ.out]
    by_cases hz : zerosB (st.padPart behind n) = true
    · have hV : st.textV behind n = st.rest.extract behind (behind + n) := by unfold RSt.textV; rw [HQ.out, if_pos ⟨E3.out, E2.out, hz⟩]
      have hS : st.textS behind n = st.drop (behind + n + Y.size) := by unfold RSt.textS; rw [HQ.out, if_pos E3.out, if_neg (by have := E2.out; omega), if_pos hz]
      rw [hpp, hz, ← hpp] at hz0
      have HV := Lib.hid hV
      have HS := Lib.hid hS
      have hz2 : (!((st.rest.extract (behind + n) (behind + n + Y.size)).toList == Y.toList)) = false := by rw [hz0]; rfl
      have h2' := Lib.hid h2
      clear hpp hz hV hS hsz2 h2
      go_wp2
      · exfalso
        have hX : (!((st.rest.extract (behind + n) (behind + n + Y.size)).toList == Y.toList)) = true := by assumption
        exact Bool.noConfusion (hX.symm.trans hz2)
      go_ret
      rw [HV.out, HS.out, ← HX.out]
      refine ⟨rfl, hfr.trans (Fr.set1 _ _ _ _), (setOf' h2'.out.blk 0 _).trans (by simp [RSt.drop]), ?_⟩
      · show (st.rest.extract (behind + n + Y.size) st.rest.size).size ≤ _
        simp
        omega
    · have hV : st.textV behind n = ByteArray.empty := by unfold RSt.textV; rw [HQ.out, if_neg (fun h => hz h.2.2)]
      have hS : st.textS behind n = st.fail 24 := by unfold RSt.textS; rw [HQ.out, if_pos E3.out, if_neg (by have := E2.out; omega), if_neg hz]
      rw [Bool.not_eq_true] at hz
      rw [hpp, hz, ← hpp] at hz0
      have HV := Lib.hid hV
      have HS := Lib.hid hS
      have hz2 : (!((st.rest.extract (behind + n) (behind + n + Y.size)).toList == Y.toList)) = true := by rw [hz0]; rfl
      have h2' := Lib.hid (h2.set E3.out (n := 24))
      clear hpp hz hV hS hsz2 h2
      go_wp2
      · go_ret
        rw [HV.out, HS.out]
        exact ⟨rfl, hfr.trans (Fr.set1 _ _ _ _), h2'.out⟩
      · exfalso
        have hX : (!((st.rest.extract (behind + n) (behind + n + Y.size)).toList == Y.toList)) = false := by assumption
        exact Bool.noConfusion (hX.symm.trans hz2)
  · have hd : decide ((st.peeked (behind + n + Y.size)).e = 0) = false := by simpa using he
    rw [hd] at ht
    have ht0 := fun w h => Lib.hid (ht w h)
    have hV : st.textV behind n = ByteArray.empty := by
      unfold RSt.textV
      rw [HQ.out, if_neg]
      rintro ⟨h1, h2, _⟩
      exact he (by unfold RSt.peeked; rw [if_neg (by omega)]; exact h1)
    have hS : st.textS behind n = st.peeked (behind + n + Y.size) := by
      unfold RSt.textS
      rw [HQ.out]
      by_cases h0 : st.e = 0
      · rw [if_pos h0]
        have : st.rest.size < behind + n + Y.size := by
          rcases Nat.lt_or_ge st.rest.size (behind + n + Y.size) with h | h
          · exact h
          · exact absurd (by unfold RSt.peeked; rw [if_neg (by omega)]; exact h0) he
        rw [if_pos this]
        unfold RSt.peeked
        rw [if_pos ⟨h0, this⟩]
      · rw [if_neg h0, peeked_bad h0]
    rw [hV, hS]
    clear hV hS hd he ht
    go_enter Tryz.func276, Tryz.ntmps276
    go_wp2_with (first | (go_at_call 243; refine (HP _).out.mono ?_; rintro e w0 ⟨rfl, hf0⟩) | (go_at_call 254; refine ((ht0 _ (h.fr hf0 id)).out).mono ?_; rintro e w1 ⟨rfl, hf1, h1⟩))
    go_ret
    exact ⟨rfl, (hf0.mono (fun _ _ h => h.elim)).trans hf1, h1⟩

set_option maxRecDepth 100000 in
theorem rROpaque_any {b : Nat} {st : RSt} (most : Int) (w : World) (h : RRd w b st) :
    Calls Tryz.prog 257 #[.pointer (some ⟨b, 0, none⟩), .int .i64 most] w fun r w' => r = .returned (.string (st.opaqueV most)) ∧ Fr (fun k => k = b) w w' ∧ RRd w' b (st.opaqueS most) := by
  have hc := Lib.hid (counted_any most w h)
  by_cases he : (st.manyS most).e = 0
  · have hd : decide ((st.manyS most).e = 0) = true := by simpa using he
    have hb := manyV_bound st most
    have hT := fun (w : World) (h : RRd w b (st.manyS most)) => ropaque_any 4 (st.manyV most).toNat w h (by omega) (by omega)
    rw [show (((st.manyV most).toNat : Nat) : Int) = st.manyV most by omega] at hT
    have HT := Lib.hid hT
    rw [hd] at hc
    unfold RSt.opaqueV RSt.opaqueS
    clear hd he h hT
    go_enter Tryz.func257, Tryz.ntmps257
    go_wp2_with (first | (go_at_call 275; refine hc.out.mono ?_; rintro e w1 ⟨rfl, hf1, h1⟩) | (go_at_call 276; refine (HT.out _ h1).mono ?_; rintro e w2 ⟨rfl, hf2, h2⟩))
    go_ret
    exact ⟨rfl, hf1.trans hf2, h2⟩
  · have hd : decide ((st.manyS most).e = 0) = false := by simpa using he
    have hV : st.opaqueV most = ByteArray.empty := by unfold RSt.opaqueV RSt.textV; rw [if_neg (fun h => he h.1)]
    have hS : st.opaqueS most = st.manyS most := by unfold RSt.opaqueS RSt.textS; rw [if_neg he]
    rw [hd] at hc
    rw [hV, hS]
    clear hd hV hS he h
    go_enter Tryz.func257, Tryz.ntmps257
    go_wp2_with (go_at_call 275; refine hc.out.mono ?_; rintro e w1 ⟨rfl, hf1, h1⟩)
    go_ret
    exact ⟨rfl, hf1, h1⟩
end Go.Proofs.YtbegjpmifcnieaaGreatDoor
