/- The document's Reader (callboxref02): numbers, counts, texts, the rest. -/
import Derived.Test.YtcooijhndiainaaGreatDoorR4
import Derived.Deep.RegionHeld3
namespace Go.Proofs.YtcooijhndiainaaGreatDoor
open Go.RowKit

theorem beN_extract (s : ByteArray) (k : Nat) (h : k ≤ s.size) : beN (s.extract 0 k) (s.extract 0 k).size = beN s k := by
  unfold beN
  have e : (s.extract 0 k).data.toList = s.data.toList.take k := by
    simp [ByteArray.data_extract]
  rw [e, List.take_of_length_le]
  simp
theorem extract_size0 (s : ByteArray) (k : Nat) (h : k ≤ s.size) : (s.extract 0 k).size = k := by simp; omega
theorem wrap64_small {n : Int} (h0 : 0 ≤ n) (h1 : n < 4294967296) : wrap64 n = n := by unfold wrap64; omega
theorem Number_front {s : ByteArray} {k : Nat} (w : World) (h : k ≤ s.size) (hk : k ≤ 8) :
    Calls Tryz.prog 107 #[.string (s.extract 0 k)] w fun r w' => r = .returned (.int .i64 (wrap64 (beN s k))) ∧ w = w' := by
  have := Number_any (s.extract 0 k) w (by rw [extract_size0 s k h]; exact hk)
  rwa [beN_extract s k h] at this

theorem peeked_bad_e {st : RSt} {n : Nat} (h : (st.peeked n).e ≠ 0) : st.peekV n = 0 := by
  unfold RSt.peeked at h
  split at h
  · rename_i hc
    simp [RSt.peekV, RSt.peekOk]; omega
  · exact peekV_bad h n
theorem peeked_good {st : RSt} {n : Nat} (h : (st.peeked n).e = 0) : st.peeked n = st ∧ n ≤ st.rest.size ∧ st.e = 0 ∧ st.peekV n = beN st.rest n := by
  obtain ⟨h1, h2⟩ := peeked_ok h
  have e : st.peeked n = st := by
    unfold RSt.peeked
    rw [if_neg]
    rintro ⟨_, hl⟩
    have : (st.peeked n).rest = st.rest := by unfold RSt.peeked; split <;> first | exact fail_rest | rfl
    rw [this] at h2
    omega
  rw [e] at h2
  exact ⟨e, h2, h1, by simp [RSt.peekV, RSt.peekOk, h1, h2]⟩

set_option maxRecDepth 100000 in
theorem rRUint_any {b : Nat} {st : RSt} (w : World) (h : RRd w b st) :
    Calls Tryz.prog 100 #[.pointer (some ⟨b, 0, none⟩)] w fun r w' => r = .returned (.int .i64 st.uintV) ∧ Fr (fun k => k = b) w w' ∧ RRd w' b st.uint := by
  have ht := Lib.hid (there_any 4 w h)
  by_cases he : (st.peeked 4).e = 0
  · obtain ⟨e1, e2, e3, e4⟩ := peeked_good he
    have hd : decide ((st.peeked 4).e = 0) = true := by simpa using he
    have hv : wrap64 (beN st.rest 4) = st.uintV := by
      have := beN_bound st.rest 4
      unfold RSt.uintV; rw [e4]; exact wrap64_small this.1 this.2
    have hs : st.uint = st.drop 4 := by unfold RSt.uint RSt.takes; rw [e1, if_pos e3]
    rw [hd, e1] at ht
    have HN := fun w => Lib.hid (Number_front (s := st.rest) (k := 4) w e2 (by decide))
    rw [hv] at HN
    rw [hs]
    have E2 := Lib.hid e2
    clear e1 e2 e3 e4 hd hv hs he h
    go_enter Tryz.func100, Tryz.ntmps100
    go_wp2_with (first | (go_at_call 105; refine ht.out.mono ?_; rintro e w1 ⟨rfl, hf1, h1⟩) | (go_at_call 106; refine (rTakes_any 4 _ h1 E2.out).mono ?_; rintro e w2 ⟨rfl, hf2, h2⟩) | (go_at_call 107; refine (HN _).out.mono ?_; rintro e w3 ⟨rfl, rfl⟩))
    go_ret
    exact ⟨rfl, hf1.trans hf2, h2⟩
  · have hd : decide ((st.peeked 4).e = 0) = false := by simpa using he
    have hv : st.uintV = 0 := peeked_bad_e he
    have hs : st.uint = st.peeked 4 := by unfold RSt.uint RSt.takes; rw [if_neg he]
    rw [hd] at ht
    rw [hs, hv]
    clear hd hv hs he h
    go_enter Tryz.func100, Tryz.ntmps100
    go_wp2_with (go_at_call 105; refine ht.out.mono ?_; rintro e w1 ⟨rfl, hf1, h1⟩)
    go_ret
    exact ⟨rfl, hf1, h1⟩

set_option maxRecDepth 100000 in
theorem rRHyper_any {b : Nat} {st : RSt} (w : World) (h : RRd w b st) :
    Calls Tryz.prog 63 #[.pointer (some ⟨b, 0, none⟩)] w fun r w' => r = .returned (.int .i64 st.hyperV) ∧ Fr (fun k => k = b) w w' ∧ RRd w' b st.hyper := by
  have ht := Lib.hid (there_any 8 w h)
  by_cases he : (st.peeked 8).e = 0
  · obtain ⟨e1, e2, e3, e4⟩ := peeked_good he
    have hd : decide ((st.peeked 8).e = 0) = true := by simpa using he
    have hv : wrap64 (beN st.rest 8) = st.hyperV := by unfold RSt.hyperV; rw [e4]
    have hs : st.hyper = st.drop 8 := by unfold RSt.hyper RSt.takes; rw [e1, if_pos e3]
    rw [hd, e1] at ht
    have HN := fun w => Lib.hid (Number_front (s := st.rest) (k := 8) w e2 (by decide))
    rw [hv] at HN
    rw [hs]
    have E2 := Lib.hid e2
    clear e1 e2 e3 e4 hd hv hs he h
    go_enter Tryz.func63, Tryz.ntmps63
    go_wp2_with (first | (go_at_call 105; refine ht.out.mono ?_; rintro e w1 ⟨rfl, hf1, h1⟩) | (go_at_call 106; refine (rTakes_any 8 _ h1 E2.out).mono ?_; rintro e w2 ⟨rfl, hf2, h2⟩) | (go_at_call 107; refine (HN _).out.mono ?_; rintro e w3 ⟨rfl, rfl⟩))
    go_ret
    exact ⟨rfl, hf1.trans hf2, h2⟩
  · have hd : decide ((st.peeked 8).e = 0) = false := by simpa using he
    have hv : st.hyperV = 0 := by unfold RSt.hyperV; rw [peeked_bad_e he]; simp [wrap64]
    have hs : st.hyper = st.peeked 8 := by unfold RSt.hyper RSt.takes; rw [if_neg he]
    rw [hd] at ht
    rw [hs, hv]
    clear hd hv hs he h
    go_enter Tryz.func63, Tryz.ntmps63
    go_wp2_with (go_at_call 105; refine ht.out.mono ?_; rintro e w1 ⟨rfl, hf1, h1⟩)
    go_ret
    exact ⟨rfl, hf1, h1⟩

set_option maxRecDepth 100000 in
theorem rRRest_any {b : Nat} {st : RSt} (w : World) (h : RRd w b st) :
    Calls Tryz.prog 118 #[.pointer (some ⟨b, 0, none⟩)] w fun r w' => r = .returned (.string st.restV) ∧ Fr (fun k => k = b) w w' ∧ RRd w' b st.restS := by
  have c0 := cellOf h.blk 0
  have c1 := cellOf h.blk 1
  simp at c0 c1
  have hsz := h.size
  have H := Lib.hid h
  clear h
  by_cases he : st.e = 0
  · have hb : (st.e != 0) = false := by simpa using he
    have ex : st.rest.extract 0 st.rest.size = st.rest := by simp
    rw [show st.restV = st.rest.extract 0 st.rest.size from if_pos he, show st.restS = st.drop st.rest.size from if_pos he, ex]
    have ht := fun w (h : RRd w b st) => rTakes_any st.rest.size w h (Nat.le_refl _)
    rw [ex] at ht
    have HT := Lib.hid ht
    clear he ex ht
    go_enter Tryz.func118, Tryz.ntmps118
    go_wp2_with (go_at_call 106; refine (HT.out _ H.out).mono ?_; rintro e w2 ⟨rfl, hf2, h2⟩)
    go_ret
    exact ⟨rfl, hf2, h2⟩
  · have hb : (st.e != 0) = true := by simpa using he
    rw [show st.restV = ByteArray.empty from if_neg he, show st.restS = st from if_neg he]
    clear he
    go_enter Tryz.func118, Tryz.ntmps118
    go_wp2
    go_ret
    exact ⟨rfl, Fr.refl _ _, H.out⟩

set_option maxRecDepth 100000 in
set_option maxHeartbeats 2000000 in
theorem counted_any {b : Nat} {st : RSt} (most : Int) (w : World) (h : RRd w b st) :
    Calls Tryz.prog 125 #[.pointer (some ⟨b, 0, none⟩), .int .i64 most] w fun r w' => r = .returned (.tuple #[.int .i64 (st.manyV most), .bool (decide ((st.manyS most).e = 0))]) ∧ Fr (fun k => k = b) w w' ∧ RRd w' b (st.manyS most) := by
  by_cases hw : isWordB most = true
  · have hm0 : 0 ≤ most := by simp [isWordB] at hw; omega
    have e1 : st.worded most = st := if_pos hw
    have ht := Lib.hid (there_any 4 w h)
    by_cases he : (st.peeked 4).e = 0
    · obtain ⟨e2, e3, e4, e5⟩ := peeked_good he
      have hd : decide ((st.peeked 4).e = 0) = true := by simpa using he
      rw [hd, e2] at ht
      have hbn := beN_bound st.rest 4
      have hbn2 : 0 ≤ beN st.rest 4 ∧ beN st.rest 4 < 4294967296 := hbn
      have HN := fun w => Lib.hid (Number_front (s := st.rest) (k := 4) w e3 (by decide))
      rw [wrap64_small hbn2.1 hbn2.2] at HN
      have hSd : st.manyS most = if most < beN st.rest 4 then st.fail 23 else st := by unfold RSt.manyS; rw [e1, e2, e5]
      by_cases hm : most < beN st.rest 4
      · have hS : st.manyS most = st.fail 23 := by rw [hSd, if_pos hm]
        have hV : st.manyV most = 0 := by unfold RSt.manyV; rw [hS, if_neg (fail_e (by decide))]
        have hD : decide ((st.fail 23).e = 0) = false := by rw [decide_eq_false_iff_not]; exact fail_e (by decide)
        rw [hS, hV, hD]
        have E4 := Lib.hid e4
        have hsz := Lib.hid e3
        generalize beN st.rest 4 = N at *
        have h4 : 4 ≤ st.rest.size := e3
        clear e1 e2 e3 e4 e5 hd he hbn hSd hS hV hD h
        go_enter Tryz.func125, Tryz.ntmps125
        go_wp2_with (first | (go_at_call 113; refine (word_any _ _).mono ?_; rintro e w' ⟨rfl, rfl⟩) | (go_at_call 105; refine ht.out.mono ?_; rintro e w1 ⟨rfl, hf1, h1⟩; have c0 := cellOf h1.blk 0; have c1 := cellOf h1.blk 1; have f1 := freeOf h1.blk 1; simp at c0 c1) | (go_at_call 107; refine (HN _).out.mono ?_; rintro e w3 ⟨rfl, rfl⟩))
        go_ret2
        exact ⟨rfl, hf1.trans (Fr.set1 _ _ _ _), h1.set E4.out⟩
      · have hS : st.manyS most = st := by rw [hSd, if_neg hm]
        have hV : st.manyV most = beN st.rest 4 := by unfold RSt.manyV; rw [hS, if_pos e4, e1, e5]
        have hD : decide (st.e = 0) = true := by simpa using e4
        rw [hS, hV, hD]
        have hm := Int.not_lt.1 hm
        have h4 : 4 ≤ st.rest.size := e3
        generalize beN st.rest 4 = N at *
        clear e1 e2 e3 e4 e5 hd he hbn hSd hS hV hD h
        go_enter Tryz.func125, Tryz.ntmps125
        go_wp2_with (first | (go_at_call 113; refine (word_any _ _).mono ?_; rintro e w' ⟨rfl, rfl⟩) | (go_at_call 105; refine ht.out.mono ?_; rintro e w1 ⟨rfl, hf1, h1⟩; have c0 := cellOf h1.blk 0; have c1 := cellOf h1.blk 1; have f1 := freeOf h1.blk 1; simp at c0 c1) | (go_at_call 107; refine (HN _).out.mono ?_; rintro e w3 ⟨rfl, rfl⟩))
        go_ret2
        exact ⟨rfl, hf1, h1⟩
    · have hd : decide ((st.peeked 4).e = 0) = false := by simpa using he
      rw [hd] at ht
      have hS : st.manyS most = st.peeked 4 := by unfold RSt.manyS; rw [e1, peeked_bad_e he, if_neg (by omega)]
      have hV : st.manyV most = 0 := by unfold RSt.manyV; rw [hS, if_neg he]
      rw [hS, hV, hd]
      clear e1 hd he hS hV h
      go_enter Tryz.func125, Tryz.ntmps125
      go_wp2_with (first | (go_at_call 113; refine (word_any _ _).mono ?_; rintro e w' ⟨rfl, rfl⟩) | (go_at_call 105; refine ht.out.mono ?_; rintro e w1 ⟨rfl, hf1, h1⟩))
      go_ret2
      exact ⟨rfl, hf1, h1⟩
  · have e1 : st.worded most = st.fail 22 := if_neg hw
    have hne : (st.fail 22).e ≠ 0 := fail_e (by decide)
    have hS : st.manyS most = st.fail 22 := by
      unfold RSt.manyS
      rw [e1, peeked_bad hne, fail_bad hne]
      split <;> rfl
    have hV : st.manyV most = 0 := by unfold RSt.manyV; rw [hS, if_neg hne]
    have hD : decide ((st.fail 22).e = 0) = false := by simpa using hne
    have ht := fun w (h : RRd w b (st.fail 22)) => there_any 4 w h
    rw [peeked_bad hne, hD] at ht
    have HT := Lib.hid ht
    rw [hS, hV, hD]
    rw [Bool.not_eq_true] at hw
    clear e1 hne hS hV hD ht
    go_enter Tryz.func125, Tryz.ntmps125
    go_wp2_with (first | (go_at_call 113; refine (word_any _ _).mono ?_; rintro e w' ⟨rfl, rfl⟩) | (go_at_call 136; refine (rRFail_any _ _ h).mono ?_; rintro e w0 ⟨rfl, hf0, h0⟩) | (go_at_call 105; refine (HT.out _ h0).mono ?_; rintro e w1 ⟨rfl, hf1, h1⟩))
    go_ret2
    exact ⟨rfl, hf0.trans hf1, h1⟩

set_option maxRecDepth 100000 in
theorem rRCount_any {b : Nat} {st : RSt} (most : Int) (w : World) (h : RRd w b st) :
    Calls Tryz.prog 102 #[.pointer (some ⟨b, 0, none⟩), .int .i64 most] w fun r w' => r = .returned (.int .i64 (st.manyV most)) ∧ Fr (fun k => k = b) w w' ∧ RRd w' b (st.countS most) := by
  have hc := Lib.hid (counted_any most w h)
  by_cases he : (st.manyS most).e = 0
  · have hd : decide ((st.manyS most).e = 0) = true := by simpa using he
    have hs : st.countS most = (st.manyS most).drop 4 := if_pos he
    have h4 := Lib.hid (manyS_ok he)
    rw [hd] at hc
    rw [hs]
    clear hd hs he h
    go_enter Tryz.func102, Tryz.ntmps102
    go_wp2_with (first | (go_at_call 125; refine hc.out.mono ?_; rintro e w1 ⟨rfl, hf1, h1⟩) | (go_at_call 106; refine (rTakes_any 4 _ h1 h4.out).mono ?_; rintro e w2 ⟨rfl, hf2, h2⟩))
    go_ret
    exact ⟨rfl, hf1.trans hf2, h2⟩
  · have hd : decide ((st.manyS most).e = 0) = false := by simpa using he
    have hs : st.countS most = st.manyS most := if_neg he
    rw [hd] at hc
    rw [hs]
    clear hd hs he h
    go_enter Tryz.func102, Tryz.ntmps102
    go_wp2_with (go_at_call 125; refine hc.out.mono ?_; rintro e w1 ⟨rfl, hf1, h1⟩)
    go_ret
    exact ⟨rfl, hf1, h1⟩
end Go.Proofs.YtcooijhndiainaaGreatDoor
