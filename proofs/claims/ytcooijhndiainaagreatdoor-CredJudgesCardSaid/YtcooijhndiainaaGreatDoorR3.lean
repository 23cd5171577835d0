/- The document's Writer (callboxref02): texts, counts, its end. -/
import Derived.Test.YtcooijhndiainaaGreatDoorR2
namespace Go.Proofs.YtcooijhndiainaaGreatDoor
open Go.RowKit

theorem padBA_foldl (n : Nat) : (List.replicate (padN n) (0 : Int)).foldl (fun r n => r.push (UInt8.ofNat n.toNat)) ByteArray.empty = padBA n := by
  have h := foldl_bytes (List.replicate (padN n) (0 : UInt8)) ByteArray.empty
  rw [List.map_replicate] at h
  simp only [UInt8.toNat_zero, Int.ofNat_zero, Int.natCast_zero] at h
  have e : Lib.repeatL [0] (padN n) = List.replicate (padN n) (0 : UInt8) := by
    have key : ∀ k, Lib.repeatL [0] k = List.replicate k (0 : UInt8) := by
      intro k
      induction k with
      | zero => rfl
      | succ k ih => rw [Lib.repeatL, ih, List.replicate_succ]; rfl
    exact key _
  unfold padBA
  rw [e]
  refine Eq.trans ?_ (h.trans ?_)
  · rfl
  · simp

set_option maxRecDepth 100000 in
theorem Padding_any (n : Nat) (w : World) (hn : n ≤ 140737488355328) :
    Calls Tryz.prog 122 #[.int .i64 n] w fun r w' => r = .returned (.string (padBA n)) ∧ Fr (fun _ => False) w w' := by
  obtain ⟨i0, hi, hz0, hz1, hz2⟩ := info_parts Tryz.infoU8
  have hp := padN_lt n
  have hd : (4 - (n : Int) % 4) % 4 = (padN n : Int) := by unfold padN; omega
  have HD := Lib.hid hd
  clear hd
  go_enter Tryz.func122, Tryz.ntmps122
  go_wp2_with (at_make; refine wpList_make_full _ rfl _ _ 76 rfl w.heap.size 5 i0 (.int .u8 0) 1 Tryz.underlying76 hi hz0 hz1 .i64 .i64 ((4 - (n : Int) % 4) % 4) ((4 - (n : Int) % 4) % 4) (padN n) rfl rfl HD.out HD.out (by rw [hz2]; omega) (by unfold maxLen; omega) (Nat.le_refl _) ?_)
  intro w1 hown hgrow
  have e0 : (madeCells (Value.int .u8 0).cells (padN n * 1)).toList = (List.replicate (padN n) (0 : Int)).map (Value.int .u8) := by
    rw [Nat.mul_one, List.map_replicate]
    apply List.ext_getElem
    · simp [madeCells, Value.cells]
    · intro i h1 h2
      simp [madeCells, Value.cells, Nat.mod_one]
  have hown := e0 ▸ (show w1.ownsRow w.heap.size 5 1 _ (padN n) (madeCells (Value.int .u8 0).cells (padN n * 1)).toList by simpa [Value.cells] using hown)
  have hcv := run_ownBytes (P := Tryz.prog) (w := w1) (ns := List.replicate (padN n) (0 : Int)) 76 9 Tryz.underlying76 Tryz.underlying5 Tryz.underlying9 (by rw [List.length_replicate]; exact hown)
  rw [padBA_foldl] at hcv
  have hf : Fr (fun _ => False) w w1 := Fr.ofBelow ((Below.refl _ _).grown hgrow (Nat.le_refl _) (fun k e => by cases e))
  clear hown hgrow e0
  go_wp2
  go_ret
  exact ⟨rfl, hf⟩

theorem fail_twice {st : WSt} {e : Int} (h : st.e ≠ 0) : st.fail e = st := by simp [WSt.fail, h]
theorem fail_ne {st : WSt} {e : Int} (he : e ≠ 0) : (st.fail e).e ≠ 0 := by unfold WSt.fail; split <;> assumption

set_option maxRecDepth 100000 in
set_option maxHeartbeats 2000000 in
theorem rOpaque_any {b : Nat} {st : WSt} (most : Int) (s : ByteArray) (w : World) (h : RWr w b st) (hs : s.size ≤ 1099511627776) :
    Calls Tryz.prog 91 #[.pointer (some ⟨b, 0, none⟩), .int .i64 most, .string s] w fun r w' => r = .returned (.tuple #[]) ∧ Fr (fun k => k = b) w w' ∧ RWr w' b (st.opq most s) := by
  have hp := padN_lt s.size
  have b4 : (numStr (U64 s.size) 4).size ≤ 4 := Nat.le_of_eq (numStr_size _ _)
  have bp : (padBA s.size).size ≤ 3 := by rw [padBA_size]; exact hp
  have HL : Hid ((numStr (U64 s.size) 4 ++ s ++ padBA s.size).size ≤ 140737488355328) := Lib.hid (by rw [ByteArray.size_append, ByteArray.size_append]; omega)
  have he : numStr (U64 s.size) 4 ++ s ++ padBA s.size = numStr (U64 s.size) 4 ++ padStr s := by unfold padStr; rw [ByteArray.append_assoc]
  have HE := Lib.hid he
  clear he hp
  generalize hx : numStr (U64 s.size) 4 = X at *
  generalize hy : padBA s.size = Y at *
  have HX := Lib.hid hx
  have HY := Lib.hid hy
  clear hx hy
  have HB := fun w => Lib.hid (show Calls Tryz.prog 96 #[.int .i64 (s.size : Int), .int .i64 4] w fun r w' => r = .returned (.string X) ∧ Fr (fun _ => False) w w' from HX.out ▸ By_any s.size 4 w (by decide))
  have HP := fun w => Lib.hid (show Calls Tryz.prog 122 #[.int .i64 (s.size : Int)] w fun r w' => r = .returned (.string Y) ∧ Fr (fun _ => False) w w' from HY.out ▸ Padding_any s.size w (by omega))
  have hbig : (X ++ s).size ≤ 1099511627786 := by rw [ByteArray.size_append]; omega
  by_cases hi : isWordB most = true
  · by_cases hm : most < s.size
    · have e : st.opq most s = st.fail 23 := by simp [WSt.opq, hi, hm]
      have e2 := fail_lays (st := st) (e := 23) (by decide) (X ++ s ++ Y)
      rw [e]
      have H2 := Lib.hid e2
      clear e e2
      go_enter Tryz.func91, Tryz.ntmps91
      go_wp2_with (first | (go_at_call 113; refine (word_any _ _).mono ?_; rintro e w' ⟨rfl, rfl⟩) | (go_at_call 114; refine (rFail_any _ _ h).mono ?_; rintro e w1 ⟨rfl, hf1, h1⟩) | (go_at_call 96; refine (HB _).out.mono ?_; rintro e w2 ⟨rfl, hf2⟩) | (go_at_call 122; refine (HP _).out.mono ?_; rintro e w3 ⟨rfl, hf3⟩) | (go_at_call 95; refine (rLays_any _ _ ((h1.fr hf2 id).fr hf3 id) HL.out).mono ?_; rintro e w4 ⟨rfl, hf4, h4⟩))
      go_end0
      rw [H2.out] at h4
      exact ⟨rfl, hf1.trans ((hf2.mono (fun _ _ h => h.elim)).trans ((hf3.mono (fun _ _ h => h.elim)).trans hf4)), h4⟩
    · have e : st.opq most s = st.lays (X ++ s ++ Y) := by
        rw [HE.out, ← HX.out]
        simp only [WSt.opq, hi, if_true, hm, false_or]
        by_cases h2 : st.most < s.size
        · rw [if_pos h2]
          have hsz : st.most - st.out.size < (numStr (U64 s.size) 4 ++ padStr s).size := by rw [ByteArray.size_append, padStr_size]; omega
          by_cases h3 : st.e = 0
          · simp only [WSt.lays, WSt.fail, if_pos h3, if_pos hsz]
          · simp only [WSt.lays, WSt.fail, if_neg h3]
        · rw [if_neg h2]
      rw [e]
      clear e
      go_enter Tryz.func91, Tryz.ntmps91
      go_wp2_with (first | (go_at_call 113; refine (word_any _ _).mono ?_; rintro e w' ⟨rfl, rfl⟩) | (go_at_call 96; refine (HB _).out.mono ?_; rintro e w2 ⟨rfl, hf2⟩) | (go_at_call 122; refine (HP _).out.mono ?_; rintro e w3 ⟨rfl, hf3⟩) | (go_at_call 95; refine (rLays_any _ _ ((h.fr hf2 id).fr hf3 id) HL.out).mono ?_; rintro e w4 ⟨rfl, hf4, h4⟩))
      go_end0
      exact ⟨rfl, (hf2.mono (fun _ _ h => h.elim)).trans ((hf3.mono (fun _ _ h => h.elim)).trans hf4), h4⟩
  · have e : st.opq most s = st.fail 22 := by simp [WSt.opq, hi]
    have e2 := fail_lays (st := st) (e := 22) (by decide) (X ++ s ++ Y)
    rw [e]
    have H2 := Lib.hid e2
    clear e e2
    rw [Bool.not_eq_true] at hi
    go_enter Tryz.func91, Tryz.ntmps91
    go_wp2_with (first | (go_at_call 113; refine (word_any _ _).mono ?_; rintro e w' ⟨rfl, rfl⟩) | (go_at_call 114; refine (rFail_any _ _ h).mono ?_; rintro e w1 ⟨rfl, hf1, h1⟩) | (go_at_call 96; refine (HB _).out.mono ?_; rintro e w2 ⟨rfl, hf2⟩) | (go_at_call 122; refine (HP _).out.mono ?_; rintro e w3 ⟨rfl, hf3⟩) | (go_at_call 95; refine (rLays_any _ _ ((h1.fr hf2 id).fr hf3 id) HL.out).mono ?_; rintro e w4 ⟨rfl, hf4, h4⟩))
    go_end0
    rw [H2.out] at h4
    exact ⟨rfl, hf1.trans ((hf2.mono (fun _ _ h => h.elim)).trans ((hf3.mono (fun _ _ h => h.elim)).trans hf4)), h4⟩

set_option maxRecDepth 100000 in
set_option maxHeartbeats 2000000 in
theorem rCount_any {b : Nat} {st : WSt} (most n : Int) (w : World) (h : RWr w b st) :
    Calls Tryz.prog 92 #[.pointer (some ⟨b, 0, none⟩), .int .i64 most, .int .i64 n] w fun r w' => r = .returned (.tuple #[]) ∧ Fr (fun k => k = b) w w' ∧ RWr w' b (st.count most n) := by
  have h4 : (numStr (U64 n) 4).size ≤ 140737488355328 := by rw [numStr_size]; decide
  have key : st.count most n = (if isWordB most = true ∧ 0 ≤ n then (if most < n then st.fail 23 else st) else st.fail 22).lays (numStr (U64 n) 4) := by
    unfold WSt.count
    by_cases h1 : isWordB most = true ∧ 0 ≤ n
    · rw [if_pos h1, if_pos h1]
      by_cases h2 : most < n
      · rw [if_pos h2, if_pos h2, fail_lays (by decide)]
      · rw [if_neg h2, if_neg h2]
        have hw : isWordB n = true := isWordB_of ⟨h1.2, by have := h1.1; simp [isWordB] at this; omega⟩
        unfold WSt.uint
        rw [if_pos hw]
    · rw [if_neg h1, if_neg h1, fail_lays (by decide)]
  rw [key]
  clear key
  by_cases hi : isWordB most = true
  · by_cases hn : 0 ≤ n
    · rw [if_pos ⟨hi, hn⟩]
      by_cases hm : most < n
      · rw [if_pos hm]
        go_enter Tryz.func92, Tryz.ntmps92
        go_wp2_with (first | (go_at_call 113; refine (word_any _ _).mono ?_; rintro e w' ⟨rfl, rfl⟩) | (go_at_call 114; refine (rFail_any _ _ h).mono ?_; rintro e w0 ⟨rfl, hf0, h0⟩) | (go_at_call 96; refine (By_any n 4 _ (by decide)).mono ?_; rintro e w1 ⟨rfl, hf1⟩) | (go_at_call 95; refine (rLays_any _ _ (h0.fr hf1 id) h4).mono ?_; rintro e w2 ⟨rfl, hf2, h2⟩))
        go_end0
        exact ⟨rfl, hf0.trans ((hf1.mono (fun _ _ h => h.elim)).trans hf2), h2⟩
      · rw [if_neg hm]
        go_enter Tryz.func92, Tryz.ntmps92
        go_wp2_with (first | (go_at_call 113; refine (word_any _ _).mono ?_; rintro e w' ⟨rfl, rfl⟩) | (go_at_call 96; refine (By_any n 4 _ (by decide)).mono ?_; rintro e w1 ⟨rfl, hf1⟩) | (go_at_call 95; refine (rLays_any _ _ (h.fr hf1 id) h4).mono ?_; rintro e w2 ⟨rfl, hf2, h2⟩))
        go_end0
        exact ⟨rfl, (hf1.mono (fun _ _ h => h.elim)).trans hf2, h2⟩
    · rw [if_neg (fun h => hn h.2)]
      go_enter Tryz.func92, Tryz.ntmps92
      go_wp2_with (first | (go_at_call 113; refine (word_any _ _).mono ?_; rintro e w' ⟨rfl, rfl⟩) | (go_at_call 114; refine (rFail_any _ _ h).mono ?_; rintro e w0 ⟨rfl, hf0, h0⟩) | (go_at_call 96; refine (By_any n 4 _ (by decide)).mono ?_; rintro e w1 ⟨rfl, hf1⟩) | (go_at_call 95; refine (rLays_any _ _ (h0.fr hf1 id) h4).mono ?_; rintro e w2 ⟨rfl, hf2, h2⟩))
      go_end0
      exact ⟨rfl, hf0.trans ((hf1.mono (fun _ _ h => h.elim)).trans hf2), h2⟩
  · rw [if_neg (fun h => hi h.1)]
    rw [Bool.not_eq_true] at hi
    go_enter Tryz.func92, Tryz.ntmps92
    go_wp2_with (first | (go_at_call 113; refine (word_any _ _).mono ?_; rintro e w' ⟨rfl, rfl⟩) | (go_at_call 114; refine (rFail_any _ _ h).mono ?_; rintro e w0 ⟨rfl, hf0, h0⟩) | (go_at_call 96; refine (By_any n 4 _ (by decide)).mono ?_; rintro e w1 ⟨rfl, hf1⟩) | (go_at_call 95; refine (rLays_any _ _ (h0.fr hf1 id) h4).mono ?_; rintro e w2 ⟨rfl, hf2, h2⟩))
    go_end0
    exact ⟨rfl, hf0.trans ((hf1.mono (fun _ _ h => h.elim)).trans hf2), h2⟩

set_option maxRecDepth 100000 in
theorem rDone_any {b : Nat} {st : WSt} (w : World) (h : RWr w b st) :
    Calls Tryz.prog 75 #[.pointer (some ⟨b, 0, none⟩)] w fun r w' => r = .returned (.tuple #[.string st.body, .int .i64 st.e]) ∧ Fr (fun _ => False) w w' := by
  have c0 := cellOf h.blk 0
  have c2 := cellOf h.blk 2
  simp at c0 c2
  by_cases he : st.e = 0
  · have hb : (st.e != 0) = false := by simpa using he
    rw [show st.body = st.out from if_pos he, he]
    rw [he] at c2
    clear he
    go_enter Tryz.func75, Tryz.ntmps75
    go_wp2
    go_ret2
    exact ⟨rfl, Fr.refl _ _⟩
  · have hb : (st.e != 0) = true := by simpa using he
    rw [show st.body = ByteArray.empty from if_neg he]
    clear he
    go_enter Tryz.func75, Tryz.ntmps75
    go_wp2
    go_quiet (fail)
    go_wp2
    go_ret2
    exact ⟨rfl, (Fr.refl _ _).drewN _⟩
end Go.Proofs.YtcooijhndiainaaGreatDoor
