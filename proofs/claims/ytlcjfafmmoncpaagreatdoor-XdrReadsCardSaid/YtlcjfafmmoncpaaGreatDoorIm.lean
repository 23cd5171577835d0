/- The document's Reader (callboxref02): its other methods. -/
import Derived.Test.YtlcjfafmmoncpaaGreatDoorR4
import Derived.Test.YtlcjfafmmoncpaaGreatDoorIo
import Derived.Test.YtlcjfafmmoncpaaGreatDoorFq
namespace Go.Proofs.YtlcjfafmmoncpaaGreatDoor
open Go.RowKit
set_option linter.unusedVariables false
set_option linter.unusedSimpArgs false

theorem yLeft_any {b : Nat} {st : RSt} (w : World) (h : RRd w b st) : Calls Tryz.prog 22 #[.pointer (some ⟨b, 0, none⟩)] w fun r w' => r = .returned (.int .i64 (st.rest.size : Nat)) ∧ w = w' := by
  have c0 := cellOf h.blk 0
  simp at c0
  have hsz := h.size
  clear h
  go_enter Tryz.func22, Tryz.ntmps22
  go_wp2
  go_ret
  exact ⟨rfl, rfl⟩
set_option maxRecDepth 100000 in
theorem yInt_any {b : Nat} {st : RSt} (w : World) (h : RRd w b st) :
    Calls Tryz.prog 74 #[.pointer (some ⟨b, 0, none⟩)] w fun r w' => r = .returned (.int .i64 st.intV) ∧ Fr (fun k => k = b) w w' ∧ RRd w' b st.uint := by
  have hb := peekV_bound st 4
  have HU := Lib.hid (rRUint_any w h)
  unfold RSt.uintV at HU
  unfold RSt.intV
  generalize st.peekV 4 = z at *
  clear h
  by_cases hc : 2147483648 ≤ z
  · have e : wrap64 (wrap32 z) = z - 4294967296 := by unfold wrap64 wrap32; omega
    have hs : IntKind.i64.wrap (z - 4294967296) = z - 4294967296 := by rw [IntKind.wrap_i64]; omega
    rw [e]
    clear e hb
    go_enter Tryz.func74, Tryz.ntmps74
    go_wp2_with (go_at_call 75; refine HU.out.mono ?_; rintro e w1 ⟨rfl, hf1, h1⟩)
    go_ret
    exact ⟨rfl, hf1, h1⟩
  · have e : wrap64 (wrap32 z) = z := by unfold wrap64 wrap32; omega
    have hc := Int.not_le.1 hc
    rw [e]
    clear e hb
    go_enter Tryz.func74, Tryz.ntmps74
    go_wp2_with (go_at_call 75; refine HU.out.mono ?_; rintro e w1 ⟨rfl, hf1, h1⟩)
    go_ret
    exact ⟨rfl, hf1, h1⟩
set_option maxRecDepth 100000 in
theorem yBool_any {b : Nat} {st : RSt} (w : World) (h : RRd w b st) :
    Calls Tryz.prog 79 #[.pointer (some ⟨b, 0, none⟩)] w fun r w' => r = .returned (.bool st.boolV) ∧ Fr (fun k => k = b) w w' ∧ RRd w' b st.boolS := by
  have ht := Lib.hid (there_any 4 w h)
  unfold RSt.boolV RSt.boolS
  by_cases he : (st.peeked 4).e = 0
  · obtain ⟨e1, e2, e3, e4⟩ := peeked_good he
    have hd : decide ((st.peeked 4).e = 0) = true := by simpa using he
    have hv : wrap64 (beN st.rest 4) = st.peekV 4 := by
      have := beN_bound st.rest 4
      rw [e4]; exact wrap64_small this.1 this.2
    rw [hd, e1] at ht
    have HN := fun w => Lib.hid (Number_front (s := st.rest) (k := 4) w e2 (by decide))
    rw [hv] at HN
    rw [e1]
    have E2 := Lib.hid e2
    have E3 := Lib.hid e3
    by_cases hc : 1 < st.peekV 4
    · rw [if_pos hc]
      have hs : (st.fail 25).takes 4 = st.fail 25 := by unfold RSt.takes; rw [if_neg (fail_e (by decide))]
      have hb : (st.peekV 4 == 1) = false := by rw [beq_eq_false_iff_ne]; omega
      rw [hs, hb]
      generalize st.peekV 4 = z at *
      have hsz : 4 ≤ st.rest.size := e2
      have hrs := h.size
      clear e1 e2 e3 e4 hd hv he h hs hb
      go_enter Tryz.func79, Tryz.ntmps79
      go_wp2_with (first | (go_at_call 133; refine ht.out.mono ?_; rintro e w1 ⟨rfl, hf1, h1⟩; have c0 := cellOf h1.blk 0; have c1 := cellOf h1.blk 1; have f1 := freeOf h1.blk 1; simp at c0 c1) | (go_at_call 135; refine (HN _).out.mono ?_; rintro e w3 ⟨rfl, rfl⟩))
      go_ret
      exact ⟨rfl, hf1.trans (Fr.set1 _ _ _ _), h1.set E3.out⟩
    · rw [if_neg hc]
      have hs : st.takes 4 = st.drop 4 := by unfold RSt.takes; rw [if_pos e3]
      rw [hs]
      have hc := Int.not_lt.1 hc
      generalize st.peekV 4 = z at *
      have hsz : 4 ≤ st.rest.size := e2
      have hrs := h.size
      clear e1 e2 e3 e4 hd hv he h hs
      go_enter Tryz.func79, Tryz.ntmps79
      go_wp2_with (first | (go_at_call 133; refine ht.out.mono ?_; rintro e w1 ⟨rfl, hf1, h1⟩; have c0 := cellOf h1.blk 0; simp at c0) | (go_at_call 134; refine (rTakes_any 4 _ h1 E2.out).mono ?_; rintro e w2 ⟨rfl, hf2, h2⟩) | (go_at_call 135; refine (HN _).out.mono ?_; rintro e w3 ⟨rfl, rfl⟩))
      go_ret
      exact ⟨rfl, hf1.trans hf2, h2⟩
  · have hd : decide ((st.peeked 4).e = 0) = false := by simpa using he
    have hv : st.peekV 4 = 0 := peeked_bad_e he
    have hs : (st.peeked 4).takes 4 = st.peeked 4 := by unfold RSt.takes; rw [if_neg he]
    rw [hd] at ht
    rw [hv, if_neg (by decide), hs]
    clear hd hv hs he h
    go_enter Tryz.func79, Tryz.ntmps79
    go_wp2_with (go_at_call 133; refine ht.out.mono ?_; rintro e w1 ⟨rfl, hf1, h1⟩)
    go_ret
    exact ⟨rfl, hf1, h1⟩
set_option maxRecDepth 100000 in
theorem yFixed_any {b : Nat} {st : RSt} (n : Int) (w : World) (h : RRd w b st) :
    Calls Tryz.prog 86 #[.pointer (some ⟨b, 0, none⟩), .int .i64 n] w fun r w' => r = .returned (.string (st.fixedV n)) ∧ Fr (fun k => k = b) w w' ∧ RRd w' b (st.fixedS n) := by
  unfold RSt.fixedV RSt.fixedS
  by_cases hi : isWordB n = true
  · rw [if_pos hi, if_pos hi]
    have hw := isWordB_iff.1 hi
    by_cases he : st.e = 0
    · have hT := Lib.hid (ropaque_any 0 n.toNat w h (by omega) (by decide))
      rw [show ((n.toNat : Nat) : Int) = n by omega] at hT
      have c1 := cellOf h.blk 1
      simp at c1
      rw [he] at c1
      clear he h hw
      go_enter Tryz.func86, Tryz.ntmps86
      go_wp2_with (first | (go_at_call 125; refine (rword_any _ _).mono ?_; rintro e w' ⟨rfl, rfl⟩) | (go_at_call 138; refine hT.out.mono ?_; rintro e w2 ⟨rfl, hf2, h2⟩))
      go_ret
      exact ⟨rfl, hf2, h2⟩
    · rw [show st.textV 0 n.toNat = ByteArray.empty by unfold RSt.textV; rw [if_neg (fun h => he h.1)], show st.textS 0 n.toNat = st by unfold RSt.textS; rw [if_neg he]]
      have c1 := cellOf h.blk 1
      simp at c1
      have hb : (st.e != 0) = true := by simpa using he
      have H := Lib.hid h
      clear he h hw
      go_enter Tryz.func86, Tryz.ntmps86
      go_wp2_with (first | (go_at_call 125; refine (rword_any _ _).mono ?_; rintro e w' ⟨rfl, rfl⟩))
      go_ret
      exact ⟨rfl, Fr.refl _ _, H.out⟩
  · rw [if_neg hi, if_neg hi]
    rw [Bool.not_eq_true] at hi
    have hF := Lib.hid (rRFail_any 22 w h)
    have hne : ((st.fail 22).e != 0) = true := by simpa using fail_e (st := st) (n := 22) (by decide)
    clear h
    go_enter Tryz.func86, Tryz.ntmps86
    go_wp2_with (first | (go_at_call 125; refine (rword_any _ _).mono ?_; rintro e w' ⟨rfl, rfl⟩) | (go_at_call 93; refine hF.out.mono ?_; rintro e w1 ⟨rfl, hf1, h1⟩; have c1 := cellOf h1.blk 1; simp at c1))
    go_ret
    exact ⟨rfl, hf1, h1⟩

set_option maxRecDepth 100000 in
theorem yFloat_any {b : Nat} {st : RSt} (w : World) (h : RRd w b st) :
    Calls Tryz.prog 82 #[.pointer (some ⟨b, 0, none⟩)] w fun r w' => ∃ y, r = .returned (.float .f32 y) ∧ bitsF .f32 y = bitsF .f32 st.floatV ∧ Fr (fun k => k = b) w w' ∧ RRd w' b st.floatS := by
  have ht := Lib.hid (there_any 4 w h)
  have hpb := peekV_bound st 4
  unfold RSt.floatV RSt.floatS RSt.floatOk
  by_cases he : (st.peeked 4).e = 0
  · obtain ⟨e1, e2, e3, e4⟩ := peeked_good he
    have hd : decide ((st.peeked 4).e = 0) = true := by simpa using he
    have hok : st.peekOk 4 = true := by simp [RSt.peekOk, e2, e3]
    rw [hd, e1] at ht
    have HN := fun w => Lib.hid (Number_front (s := st.rest) (k := 4) w e2 (by decide))
    rw [← e4] at HN
    rw [hok, e1, Bool.true_and]
    have E2 := Lib.hid e2
    have E3 := Lib.hid e3
    have hsz : 4 ≤ st.rest.size := e2
    have hrs := h.size
    obtain ⟨z, hz⟩ : ∃ z : Nat, st.peekV 4 = z := ⟨(st.peekV 4).toNat, by omega⟩
    have hzb : z < 4294967296 := by have := hpb.2; omega
    rw [hz] at HN ⊢
    rw [Int.toNat_natCast]
    have hcw : IntKind.u32.wrap (wrap64 (z : Int)) = (z : Int) := by rw [IntKind.wrap_u32]; unfold wrap64; omega
    have HF := fun w => Lib.hid (rFrom32_any z w hzb)
    by_cases hb : badF .f32 z = true
    · rw [hb]
      rw [show (!true) = false from rfl, if_neg (by decide), if_neg (by decide)]
      have f1 : fromE .f32 z = 10 := if_pos hb
      rw [f1] at HF
      clear e1 e2 e3 e4 hd he h hb f1 hok hpb hz hzb
      generalize fromF .f32 z = fz at *
      go_enter Tryz.func82, Tryz.ntmps82
      go_wp2_with (first | (go_at_call 133; refine ht.out.mono ?_; rintro e w1 ⟨rfl, hf1, h1⟩; have c0 := cellOf h1.blk 0; simp at c0) | (go_at_call 135; refine (HN _).out.mono ?_; rintro e w3 ⟨rfl, rfl⟩) | (go_at_call 136; refine (HF _).out.mono ?_; rintro e w4 ⟨x, rfl, hx, hf4⟩; have h4 := h1.fr hf4 id; have c0 := cellOf h4.blk 0; have c1 := cellOf h4.blk 1; have f1 := freeOf h4.blk 1; simp at c0 c1))
      go_ret
      exact ⟨0, rfl, rfl, (hf1.trans (hf4.mono (fun _ _ h => h.elim))).trans (Fr.set1 _ _ _ _), h4.set E3.out⟩
    · have hb : badF .f32 z = false := by simpa using hb
      rw [hb]
      rw [show (!false) = true from rfl, if_pos rfl, if_pos rfl]
      have f1 : fromE .f32 z = 0 := by unfold fromE; rw [hb]; rfl
      have f2 : fromF .f32 z = z := by unfold fromF; rw [hb]; rfl
      have hs : st.takes 4 = st.drop 4 := by unfold RSt.takes; rw [if_pos e3]
      rw [f1, f2] at HF
      rw [hs]
      clear e1 e2 e3 e4 hd he h hb f1 f2 hok hpb hz hzb hs
      go_enter Tryz.func82, Tryz.ntmps82
      go_wp2_with (first | (go_at_call 133; refine ht.out.mono ?_; rintro e w1 ⟨rfl, hf1, h1⟩; have c0 := cellOf h1.blk 0; simp at c0) | (go_at_call 135; refine (HN _).out.mono ?_; rintro e w3 ⟨rfl, rfl⟩) | (go_at_call 136; refine (HF _).out.mono ?_; rintro e w4 ⟨x, rfl, hx, hf4⟩; have h4 := Lib.hid (h1.fr hf4 id)) | (go_at_call 134; refine (rTakes_any 4 _ h4.out E2.out).mono ?_; rintro e w2 ⟨rfl, hf2, h2⟩))
      go_ret
      exact ⟨x, rfl, hx, (hf1.trans (hf4.mono (fun _ _ h => h.elim))).trans hf2, h2⟩
  · have hd : decide ((st.peeked 4).e = 0) = false := by simpa using he
    have hok : st.peekOk 4 = false := by
      unfold RSt.peeked at he
      cases hp : st.peekOk 4
      · rfl
      · exfalso
        apply he
        simp only [RSt.peekOk, Bool.and_eq_true, decide_eq_true_eq] at hp
        rw [if_neg (by omega)]
        exact hp.1
    rw [hd] at ht
    rw [hok, Bool.false_and, if_neg (by decide), if_neg (by decide), fail_bad he]
    clear hd he h hok hpb
    go_enter Tryz.func82, Tryz.ntmps82
    go_wp2_with (go_at_call 133; refine ht.out.mono ?_; rintro e w1 ⟨rfl, hf1, h1⟩)
    go_ret
    exact ⟨0, rfl, rfl, hf1, h1⟩

set_option maxRecDepth 100000 in
theorem yDouble_any {b : Nat} {st : RSt} (w : World) (h : RRd w b st) :
    Calls Tryz.prog 85 #[.pointer (some ⟨b, 0, none⟩)] w fun r w' => ∃ y, r = .returned (.float .f64 y) ∧ bitsF .f64 y = bitsF .f64 st.doubleV ∧ Fr (fun k => k = b) w w' ∧ RRd w' b st.doubleS := by
  have ht := Lib.hid (there_any 8 w h)
  have hpb := peekV_bound st 8
  unfold RSt.doubleV RSt.doubleS RSt.doubleOk
  by_cases he : (st.peeked 8).e = 0
  · obtain ⟨e1, e2, e3, e4⟩ := peeked_good he
    have hd : decide ((st.peeked 8).e = 0) = true := by simpa using he
    have hok : st.peekOk 8 = true := by simp [RSt.peekOk, e2, e3]
    rw [hd, e1] at ht
    have HN := fun w => Lib.hid (Number_front (s := st.rest) (k := 8) w e2 (by decide))
    rw [← e4] at HN
    rw [hok, e1, Bool.true_and]
    have E2 := Lib.hid e2
    have E3 := Lib.hid e3
    have hsz : 8 ≤ st.rest.size := e2
    have hrs := h.size
    obtain ⟨z, hz⟩ : ∃ z : Nat, st.peekV 8 = z := ⟨(st.peekV 8).toNat, by omega⟩
    have hzb : z < 18446744073709551616 := by have := hpb.2; omega
    rw [hz] at HN ⊢
    rw [Int.toNat_natCast]
    have hcw : IntKind.u64.wrap (wrap64 (z : Int)) = (z : Int) := by rw [IntKind.wrap_u64]; unfold wrap64; omega
    have HF := fun w => Lib.hid (rFrom64_any z w hzb)
    by_cases hb : badF .f64 z = true
    · rw [hb]
      rw [show (!true) = false from rfl, if_neg (by decide), if_neg (by decide)]
      have f1 : fromE .f64 z = 10 := if_pos hb
      rw [f1] at HF
      clear e1 e2 e3 e4 hd he h hb f1 hok hpb hz hzb
      generalize fromF .f64 z = fz at *
      go_enter Tryz.func85, Tryz.ntmps85
      go_wp2_with (first | (go_at_call 133; refine ht.out.mono ?_; rintro e w1 ⟨rfl, hf1, h1⟩; have c0 := cellOf h1.blk 0; simp at c0) | (go_at_call 135; refine (HN _).out.mono ?_; rintro e w3 ⟨rfl, rfl⟩) | (go_at_call 137; refine (HF _).out.mono ?_; rintro e w4 ⟨x, rfl, hx, hf4⟩; have h4 := h1.fr hf4 id; have c0 := cellOf h4.blk 0; have c1 := cellOf h4.blk 1; have f1 := freeOf h4.blk 1; simp at c0 c1))
      go_ret
      exact ⟨0, rfl, rfl, (hf1.trans (hf4.mono (fun _ _ h => h.elim))).trans (Fr.set1 _ _ _ _), h4.set E3.out⟩
    · have hb : badF .f64 z = false := by simpa using hb
      rw [hb]
      rw [show (!false) = true from rfl, if_pos rfl, if_pos rfl]
      have f1 : fromE .f64 z = 0 := by unfold fromE; rw [hb]; rfl
      have f2 : fromF .f64 z = z := by unfold fromF; rw [hb]; rfl
      have hs : st.takes 8 = st.drop 8 := by unfold RSt.takes; rw [if_pos e3]
      rw [f1, f2] at HF
      rw [hs]
      clear e1 e2 e3 e4 hd he h hb f1 f2 hok hpb hz hzb hs
      go_enter Tryz.func85, Tryz.ntmps85
      go_wp2_with (first | (go_at_call 133; refine ht.out.mono ?_; rintro e w1 ⟨rfl, hf1, h1⟩; have c0 := cellOf h1.blk 0; simp at c0) | (go_at_call 135; refine (HN _).out.mono ?_; rintro e w3 ⟨rfl, rfl⟩) | (go_at_call 137; refine (HF _).out.mono ?_; rintro e w4 ⟨x, rfl, hx, hf4⟩; have h4 := Lib.hid (h1.fr hf4 id)) | (go_at_call 134; refine (rTakes_any 8 _ h4.out E2.out).mono ?_; rintro e w2 ⟨rfl, hf2, h2⟩))
      go_ret
      exact ⟨x, rfl, hx, (hf1.trans (hf4.mono (fun _ _ h => h.elim))).trans hf2, h2⟩
  · have hd : decide ((st.peeked 8).e = 0) = false := by simpa using he
    have hok : st.peekOk 8 = false := by
      unfold RSt.peeked at he
      cases hp : st.peekOk 8
      · rfl
      · exfalso
        apply he
        simp only [RSt.peekOk, Bool.and_eq_true, decide_eq_true_eq] at hp
        rw [if_neg (by omega)]
        exact hp.1
    rw [hd] at ht
    rw [hok, Bool.false_and, if_neg (by decide), if_neg (by decide), fail_bad he]
    clear hd he h hok hpb
    go_enter Tryz.func85, Tryz.ntmps85
    go_wp2_with (go_at_call 133; refine ht.out.mono ?_; rintro e w1 ⟨rfl, hf1, h1⟩)
    go_ret
    exact ⟨0, rfl, rfl, hf1, h1⟩
end Go.Proofs.YtlcjfafmmoncpaaGreatDoor
