/- The document's Writer (callboxref02), of any room: it does what the Writer of package xdr does. -/
import Derived.Test.YtlcjfafmmoncpaaGreatDoorR2
import Derived.Test.YtlcjfafmmoncpaaGreatDoorIf
import Derived.Test.YtlcjfafmmoncpaaGreatDoorFq
namespace Go.Proofs.YtlcjfafmmoncpaaGreatDoor
open Go.RowKit
set_option linter.unusedVariables false
set_option linter.unusedSimpArgs false

/-- the document's Writer, of any room. -/
structure RWx (w : World) (b : Nat) (st : WSt) : Prop where
  blk : w.heap[b]? = some (.cells #[.string st.out, .int .i64 st.most, .int .i64 st.e] 99 (0, 0))
theorem RWx.keep {w w' : World} {b : Nat} {st : WSt} (h : RWx w b st) (hk : w'.heap[b]? = w.heap[b]?) : RWx w' b st := ⟨hk.trans h.blk⟩
theorem RWx.lt {w : World} {b : Nat} {st : WSt} (h : RWx w b st) : b < w.heap.size := lt_of_block h.blk
theorem RWx.fr {w w' : World} {S : Nat → Prop} {b : Nat} {st : WSt} (h : RWx w b st) (hf : Fr S w w') (hs : ¬ S b) : RWx w' b st := h.keep (hf.block _ h.lt hs)

set_option maxRecDepth 100000 in
theorem xNew_any (m : Int) (w : World) :
    Calls Tryz.prog 14 #[.int .i64 m] w fun r w' => r = .returned (.pointer (some ⟨w.heap.size, 0, none⟩)) ∧ Fr (fun _ => False) w w' ∧ RWx w' w.heap.size ⟨ByteArray.empty, max m 0, 0⟩ := by
  go_enter Tryz.func14, Tryz.ntmps14
  go_wp2
  go_ret
  exact ⟨rfl, (Fr.refl _ _).alloc _, ⟨heap_alloc_new w _⟩⟩
set_option maxRecDepth 100000 in
theorem xFail_any {b : Nat} {st : WSt} (n : Int) (w : World) (h : RWx w b st) :
    Calls Tryz.prog 71 #[.pointer (some ⟨b, 0, none⟩), .int .i64 n] w fun r w' => r = .returned (.tuple #[]) ∧ Fr (fun k => k = b) w w' ∧ RWx w' b (st.fail n) := by
  have c2 := cellOf h.blk 2
  have f2 := freeOf h.blk 2
  simp at c2
  have H := Lib.hid h
  clear h
  by_cases he : st.e = 0
  · have e : st.fail n = { st with e := n } := by simp [WSt.fail, he]
    have hb : (st.e == 0) = true := by simpa using he
    rw [e]
    clear e he
    go_enter Tryz.func71, Tryz.ntmps71
    go_wp2
    go_end0
    exact ⟨rfl, Fr.setCell (S := fun k => k = b) (p := ⟨b, 2, none⟩) (Fr.refl _ _) (.inl rfl) _, ⟨(setOf' H.out.blk 2 _).trans (by simp)⟩⟩
  · have e : st.fail n = st := by simp [WSt.fail, he]
    have hb : (st.e == 0) = false := by simpa using he
    rw [e]
    clear e he
    go_enter Tryz.func71, Tryz.ntmps71
    go_wp2
    go_end0
    exact ⟨rfl, Fr.refl _ _, H.out⟩

set_option maxRecDepth 100000 in
theorem xLays_any {b : Nat} {st : WSt} (s : ByteArray) (w : World) (h : RWx w b st) (hs : st.out.size + s.size ≤ 140737488351232) :
    Calls Tryz.prog 123 #[.pointer (some ⟨b, 0, none⟩), .string s] w fun r w' => r = .returned (.tuple #[]) ∧ Fr (fun k => k = b) w w' ∧ RWx w' b (st.lays s) := by
  have c0 := cellOf h.blk 0
  have c1 := cellOf h.blk 1
  have c2 := cellOf h.blk 2
  have f0 := freeOf h.blk 0
  have f2 := freeOf h.blk 2
  simp at c0 c1 c2
  have hsz : st.out.size ≤ 140737488351232 := by omega
  have hsz2 : s.size ≤ 140737488351232 := by omega
  have H := Lib.hid h
  clear h
  by_cases he : st.e = 0
  · have hb : (st.e != 0) = false := by simpa using he
    by_cases hlt : st.most < (st.out.size : Int) + s.size
    · have e : st.lays s = { st with e := 23 } := by
        unfold WSt.lays; rw [if_pos he, if_pos (by omega)]
      rw [e]
      clear e he
      go_enter Tryz.func123, Tryz.ntmps123
      go_wp2
      go_quiet (fail)
      go_wp2
      refine bodyPost_ret (results_none rfl _ _ _) rfl ?_
      exact ⟨rfl, Fr.setCell (S := fun k => k = b) (p := ⟨b, 2, none⟩) ((Fr.refl _ _).drewN _) (.inl rfl) _, ⟨(setOf' (w := w.drewN nq) (by exact H.out.blk) 2 _).trans (by simp)⟩⟩
    · have e : st.lays s = { st with out := st.out ++ s } := by
        unfold WSt.lays; rw [if_pos he, if_neg (by omega)]
      rw [e]
      clear e he
      go_enter Tryz.func123, Tryz.ntmps123
      go_wp2
      go_quiet (fail)
      go_wp2
      go_end0
      exact ⟨rfl, Fr.setCell (S := fun k => k = b) (p := ⟨b, 0, none⟩) ((Fr.refl _ _).drewN _) (.inl rfl) _, ⟨(setOf' (w := w.drewN nq) (by exact H.out.blk) 0 _).trans (by simp)⟩⟩
  · have hb : (st.e != 0) = true := by simpa using he
    have e : st.lays s = st := by simp [WSt.lays, he]
    rw [e]
    clear e he
    go_enter Tryz.func123, Tryz.ntmps123
    go_wp2
    refine bodyPost_ret (results_none rfl _ _ _) rfl ?_
    exact ⟨rfl, Fr.refl _ _, H.out⟩

set_option maxRecDepth 100000 in
theorem xUint_any {b : Nat} {st : WSt} (n : Int) (w : World) (h : RWx w b st) (hz : st.out.size + 16 ≤ 140737488351232) :
    Calls Tryz.prog 53 #[.pointer (some ⟨b, 0, none⟩), .int .i64 n] w fun r w' => r = .returned (.tuple #[]) ∧ Fr (fun k => k = b) w w' ∧ RWx w' b (st.uint n) := by
  have h4 : st.out.size + (numStr (U64 n) 4).size ≤ 140737488351232 := by rw [numStr_size]; omega
  have h5 : (st.fail 22).out.size + (numStr (U64 n) 4).size ≤ 140737488351232 := by rw [fail_out]; exact h4
  clear hz
  unfold WSt.uint
  by_cases hi : isWordB n = true
  · simp only [hi, if_true]
    go_enter Tryz.func53, Tryz.ntmps53
    go_wp2_with (first | (go_at_call 125; refine (rword_any _ _).mono ?_; rintro e w' ⟨rfl, rfl⟩) | (go_at_call 124; refine (By_any n 4 _ (by decide)).mono ?_; rintro e w1 ⟨rfl, hf1⟩) | (go_at_call 123; refine (xLays_any _ _ (h.fr hf1 id) h4).mono ?_; rintro e w2 ⟨rfl, hf2, h2⟩))
    go_end0
    exact ⟨rfl, (hf1.mono (fun _ _ h => h.elim)).trans hf2, h2⟩
  · rw [Bool.not_eq_true] at hi
    simp only [hi, if_false, Bool.false_eq_true]
    go_enter Tryz.func53, Tryz.ntmps53
    go_wp2_with (first | (go_at_call 125; refine (rword_any _ _).mono ?_; rintro e w' ⟨rfl, rfl⟩) | (go_at_call 71; refine (xFail_any _ _ h).mono ?_; rintro e w0 ⟨rfl, hf0, h0⟩) | (go_at_call 124; refine (By_any n 4 _ (by decide)).mono ?_; rintro e w1 ⟨rfl, hf1⟩) | (go_at_call 123; refine (xLays_any _ _ (h0.fr hf1 id) h5).mono ?_; rintro e w2 ⟨rfl, hf2, h2⟩))
    go_end0
    exact ⟨rfl, hf0.trans ((hf1.mono (fun _ _ h => h.elim)).trans hf2), h2⟩

set_option maxRecDepth 100000 in
theorem xInt_any {b : Nat} {st : WSt} (n : Int) (w : World) (h : RWx w b st) (hz : st.out.size + 16 ≤ 140737488351232) :
    Calls Tryz.prog 51 #[.pointer (some ⟨b, 0, none⟩), .int .i64 n] w fun r w' => r = .returned (.tuple #[]) ∧ Fr (fun k => k = b) w w' ∧ RWx w' b (st.int n) := by
  have h4 : st.out.size + (numStr (U64 n) 4).size ≤ 140737488351232 := by rw [numStr_size]; omega
  have h5 : (st.fail 22).out.size + (numStr (U64 n) 4).size ≤ 140737488351232 := by rw [fail_out]; exact h4
  clear hz
  unfold WSt.int isI32
  by_cases h1 : n < -2147483648
  · have e : (decide (-2147483648 ≤ n) && decide (n ≤ 2147483647)) = false := by rw [decide_eq_false (by omega)]; rfl
    simp only [e, if_false, Bool.false_eq_true]
    clear e
    go_enter Tryz.func51, Tryz.ntmps51
    go_wp2_with (first | (go_at_call 71; refine (xFail_any _ _ h).mono ?_; rintro e w0 ⟨rfl, hf0, h0⟩) | (go_at_call 124; refine (By_any n 4 _ (by decide)).mono ?_; rintro e w1 ⟨rfl, hf1⟩) | (go_at_call 123; refine (xLays_any _ _ (h0.fr hf1 id) h5).mono ?_; rintro e w2 ⟨rfl, hf2, h2⟩))
    go_end0
    exact ⟨rfl, hf0.trans ((hf1.mono (fun _ _ h => h.elim)).trans hf2), h2⟩
  · have h1 := Int.not_lt.1 h1
    by_cases h2 : 2147483648 ≤ n
    · have e : (decide (-2147483648 ≤ n) && decide (n ≤ 2147483647)) = false := by rw [decide_eq_false (by omega : ¬ n ≤ 2147483647), Bool.and_false]
      simp only [e, if_false, Bool.false_eq_true]
      clear e
      go_enter Tryz.func51, Tryz.ntmps51
      go_wp2_with (first | (go_at_call 71; refine (xFail_any _ _ h).mono ?_; rintro e w0 ⟨rfl, hf0, h0⟩) | (go_at_call 124; refine (By_any n 4 _ (by decide)).mono ?_; rintro e w1 ⟨rfl, hf1⟩) | (go_at_call 123; refine (xLays_any _ _ (h0.fr hf1 id) h5).mono ?_; rintro e w2 ⟨rfl, hf2, h2⟩))
      go_end0
      exact ⟨rfl, hf0.trans ((hf1.mono (fun _ _ h => h.elim)).trans hf2), h2⟩
    · have e : (decide (-2147483648 ≤ n) && decide (n ≤ 2147483647)) = true := by rw [decide_eq_true h1, decide_eq_true (by omega)]; rfl
      have h2 := Int.not_le.1 h2
      simp only [e, if_true]
      clear e
      go_enter Tryz.func51, Tryz.ntmps51
      go_wp2_with (first | (go_at_call 124; refine (By_any n 4 _ (by decide)).mono ?_; rintro e w1 ⟨rfl, hf1⟩) | (go_at_call 123; refine (xLays_any _ _ (h.fr hf1 id) h4).mono ?_; rintro e w2 ⟨rfl, hf2, h2⟩))
      go_end0
      exact ⟨rfl, (hf1.mono (fun _ _ h => h.elim)).trans hf2, h2⟩

set_option maxRecDepth 100000 in
theorem xHyper_any {b : Nat} {st : WSt} (n : Int) (w : World) (h : RWx w b st) (hz : st.out.size + 16 ≤ 140737488351232) :
    Calls Tryz.prog 55 #[.pointer (some ⟨b, 0, none⟩), .int .i64 n] w fun r w' => r = .returned (.tuple #[]) ∧ Fr (fun k => k = b) w w' ∧ RWx w' b (st.hyper n) := by
  have h4 : st.out.size + (numStr (U64 n) 8).size ≤ 140737488351232 := by rw [numStr_size]; omega
  clear hz
  unfold WSt.hyper
  go_enter Tryz.func55, Tryz.ntmps55
  go_wp2_with (first | (go_at_call 124; refine (By_any n 8 _ (by decide)).mono ?_; rintro e w1 ⟨rfl, hf1⟩) | (go_at_call 123; refine (xLays_any _ _ (h.fr hf1 id) h4).mono ?_; rintro e w2 ⟨rfl, hf2, h2⟩))
  go_end0
  exact ⟨rfl, (hf1.mono (fun _ _ h => h.elim)).trans hf2, h2⟩
set_option maxRecDepth 100000 in
theorem xBool_any {b : Nat} {st : WSt} (x : Bool) (w : World) (h : RWx w b st) (hz : st.out.size + 16 ≤ 140737488351232) :
    Calls Tryz.prog 57 #[.pointer (some ⟨b, 0, none⟩), .bool x] w fun r w' => r = .returned (.tuple #[]) ∧ Fr (fun k => k = b) w w' ∧ RWx w' b (st.bool x) := by
  have h4 : ∀ n, st.out.size + (numStr (U64 n) 4).size ≤ 140737488351232 := fun n => by rw [numStr_size]; omega
  clear hz
  unfold WSt.bool WSt.uint
  cases x
  · simp only [Bool.false_eq_true, if_false, show isWordB 0 = true by decide, if_true]
    have h4 := h4 0
    go_enter Tryz.func57, Tryz.ntmps57
    go_wp2_with (first | (go_at_call 124; refine (By_any 0 4 _ (by decide)).mono ?_; rintro e w1 ⟨rfl, hf1⟩) | (go_at_call 123; refine (xLays_any _ _ (h.fr hf1 id) h4).mono ?_; rintro e w2 ⟨rfl, hf2, h2⟩))
    go_end0
    exact ⟨rfl, (hf1.mono (fun _ _ h => h.elim)).trans hf2, h2⟩
  · simp only [show isWordB 1 = true by decide, if_true]
    have h4 := h4 1
    go_enter Tryz.func57, Tryz.ntmps57
    go_wp2_with (first | (go_at_call 124; refine (By_any 1 4 _ (by decide)).mono ?_; rintro e w1 ⟨rfl, hf1⟩) | (go_at_call 123; refine (xLays_any _ _ (h.fr hf1 id) h4).mono ?_; rintro e w2 ⟨rfl, hf2, h2⟩))
    go_end0
    exact ⟨rfl, (hf1.mono (fun _ _ h => h.elim)).trans hf2, h2⟩
set_option maxRecDepth 100000 in
theorem xRaw_any {b : Nat} {st : WSt} (s : ByteArray) (w : World) (h : RWx w b st) (hz : st.out.size + s.size ≤ 140737488351232) :
    Calls Tryz.prog 69 #[.pointer (some ⟨b, 0, none⟩), .string s] w fun r w' => r = .returned (.tuple #[]) ∧ Fr (fun k => k = b) w w' ∧ RWx w' b (st.raw s) := by
  have h5 : (st.fail 1).out.size + s.size ≤ 140737488351232 := by rw [fail_out]; exact hz
  unfold WSt.raw
  by_cases hm : s.size % 4 = 0
  · rw [if_pos hm]
    have ht : (s.size : Int).tmod 4 = 0 := by rw [Int.tmod_eq_emod_of_nonneg (by omega)]; omega
    have h4 := hz
    have hsz : s.size ≤ 140737488351232 := by omega
    clear hm
    go_enter Tryz.func69, Tryz.ntmps69
    go_wp2_with (go_at_call 123; refine (xLays_any _ _ h h4).mono ?_; rintro e w2 ⟨rfl, hf2, h2⟩)
    go_end0
    exact ⟨rfl, hf2, h2⟩
  · rw [if_neg hm]
    have ht : ((s.size : Int) % 4 != 0) = true := by rw [bne_iff_ne]; omega
    have hsz : s.size ≤ 140737488351232 := by omega
    clear hm
    go_enter Tryz.func69, Tryz.ntmps69
    go_wp2_with (first | (go_at_call 71; refine (xFail_any _ _ h).mono ?_; rintro e w0 ⟨rfl, hf0, h0⟩) | (go_at_call 123; refine (xLays_any _ _ h0 h5).mono ?_; rintro e w2 ⟨rfl, hf2, h2⟩))
    go_end0
    exact ⟨rfl, hf0.trans hf2, h2⟩
theorem xLen_any {b : Nat} {st : WSt} (w : World) (h : RWx w b st) : Calls Tryz.prog 73 #[.pointer (some ⟨b, 0, none⟩)] w fun r w' => r = .returned (.int .i64 (st.out.size : Nat)) ∧ w = w' := by
  have c0 := cellOf h.blk 0
  simp at c0
  clear h
  go_enter Tryz.func73, Tryz.ntmps73
  go_wp2
  go_ret
  exact ⟨rfl, rfl⟩
set_option maxRecDepth 100000 in
theorem xDone_any {b : Nat} {st : WSt} (w : World) (h : RWx w b st) :
    Calls Tryz.prog 72 #[.pointer (some ⟨b, 0, none⟩)] w fun r w' => r = .returned (.tuple #[.string st.body, .int .i64 st.e]) ∧ Fr (fun _ => False) w w' := by
  have c0 := cellOf h.blk 0
  have c2 := cellOf h.blk 2
  simp at c0 c2
  by_cases he : st.e = 0
  · have hb : (st.e != 0) = false := by simpa using he
    rw [show st.body = st.out from if_pos he, he]
    rw [he] at c2
    clear he
    go_enter Tryz.func72, Tryz.ntmps72
    go_wp2
    go_ret2
    exact ⟨rfl, Fr.refl _ _⟩
  · have hb : (st.e != 0) = true := by simpa using he
    rw [show st.body = ByteArray.empty from if_neg he]
    clear he
    go_enter Tryz.func72, Tryz.ntmps72
    go_wp2
    go_quiet (fail)
    go_wp2
    go_ret2
    exact ⟨rfl, (Fr.refl _ _).drewN _⟩

set_option maxRecDepth 100000 in
set_option maxHeartbeats 2000000 in
theorem xOpaque_any {b : Nat} {st : WSt} (most : Int) (s : ByteArray) (w : World) (h : RWx w b st) (hs : st.out.size + s.size + 16 ≤ 140737488351232) :
    Calls Tryz.prog 65 #[.pointer (some ⟨b, 0, none⟩), .int .i64 most, .string s] w fun r w' => r = .returned (.tuple #[]) ∧ Fr (fun k => k = b) w w' ∧ RWx w' b (st.opq most s) := by
  have hp := padN_lt s.size
  have b4 : (numStr (U64 s.size) 4).size ≤ 4 := Nat.le_of_eq (numStr_size _ _)
  have bp : (padBA s.size).size ≤ 3 := by rw [padBA_size]; exact hp
  have HL : Hid (st.out.size + (numStr (U64 s.size) 4 ++ s ++ padBA s.size).size ≤ 140737488351232) := Lib.hid (by rw [ByteArray.size_append, ByteArray.size_append]; omega)
  have HL2 : Hid (∀ e, (st.fail e).out.size + (numStr (U64 s.size) 4 ++ s ++ padBA s.size).size ≤ 140737488351232) := Lib.hid (fun e => by rw [fail_out]; exact HL.out)
  have hs0 : s.size ≤ 140737488351232 := by omega
  have he : numStr (U64 s.size) 4 ++ s ++ padBA s.size = numStr (U64 s.size) 4 ++ padStr s := by unfold padStr; rw [ByteArray.append_assoc]
  have HE := Lib.hid he
  clear he hp
  generalize hx : numStr (U64 s.size) 4 = X at *
  generalize hy : padBA s.size = Y at *
  have HX := Lib.hid hx
  have HY := Lib.hid hy
  clear hx hy
  have HB := fun w => Lib.hid (show Calls Tryz.prog 124 #[.int .i64 (s.size : Int), .int .i64 4] w fun r w' => r = .returned (.string X) ∧ Fr (fun _ => False) w w' from HX.out ▸ By_any s.size 4 w (by decide))
  have HP := fun w => Lib.hid (show Calls Tryz.prog 131 #[.int .i64 (s.size : Int)] w fun r w' => r = .returned (.string Y) ∧ Fr (fun _ => False) w w' from HY.out ▸ Padding_any s.size w (by omega))
  have hbig : (X ++ s).size ≤ 140737488351238 := by rw [ByteArray.size_append]; omega
  by_cases hi : isWordB most = true
  · by_cases hm : most < s.size
    · have e : st.opq most s = st.fail 23 := by simp [WSt.opq, hi, hm]
      have e2 := fail_lays (st := st) (e := 23) (by decide) (X ++ s ++ Y)
      rw [e]
      have H2 := Lib.hid e2
      clear e e2
      go_enter Tryz.func65, Tryz.ntmps65
      go_wp2_with (first | (go_at_call 125; refine (rword_any _ _).mono ?_; rintro e w' ⟨rfl, rfl⟩) | (go_at_call 71; refine (xFail_any _ _ h).mono ?_; rintro e w1 ⟨rfl, hf1, h1⟩) | (go_at_call 124; refine (HB _).out.mono ?_; rintro e w2 ⟨rfl, hf2⟩) | (go_at_call 131; refine (HP _).out.mono ?_; rintro e w3 ⟨rfl, hf3⟩) | (go_at_call 123; refine (xLays_any _ _ ((h1.fr hf2 id).fr hf3 id) (HL2.out _)).mono ?_; rintro e w4 ⟨rfl, hf4, h4⟩))
      go_end0
      rw [H2.out] at h4
      exact ⟨rfl, hf1.trans ((hf2.mono (fun _ _ h => h.elim)).trans ((hf3.mono (fun _ _ h => h.elim)).trans hf4)), h4⟩
    · have e : st.opq most s = st.lays (X ++ s ++ Y) := by
        rw [HE.out, ← HX.out]
        simp only [WSt.opq, hi, if_true, hm, false_or]
        by_cases h2 : st.most < s.size
        · rw [if_pos h2]
          have hsz : st.most - st.out.size < (numStr (U64 s.size) 4 ++ padStr s).size := by rw [ByteArray.size_append, padStr_size]; omega
          by_cases h3 : st.e = 0
          · simp only [WSt.lays, WSt.fail, if_pos h3, if_pos hsz]
          · simp only [WSt.lays, WSt.fail, if_neg h3]
        · rw [if_neg h2]
      rw [e]
      clear e
      go_enter Tryz.func65, Tryz.ntmps65
      go_wp2_with (first | (go_at_call 125; refine (rword_any _ _).mono ?_; rintro e w' ⟨rfl, rfl⟩) | (go_at_call 124; refine (HB _).out.mono ?_; rintro e w2 ⟨rfl, hf2⟩) | (go_at_call 131; refine (HP _).out.mono ?_; rintro e w3 ⟨rfl, hf3⟩) | (go_at_call 123; refine (xLays_any _ _ ((h.fr hf2 id).fr hf3 id) HL.out).mono ?_; rintro e w4 ⟨rfl, hf4, h4⟩))
      go_end0
      exact ⟨rfl, (hf2.mono (fun _ _ h => h.elim)).trans ((hf3.mono (fun _ _ h => h.elim)).trans hf4), h4⟩
  · have e : st.opq most s = st.fail 22 := by simp [WSt.opq, hi]
    have e2 := fail_lays (st := st) (e := 22) (by decide) (X ++ s ++ Y)
    rw [e]
    have H2 := Lib.hid e2
    clear e e2
    rw [Bool.not_eq_true] at hi
    go_enter Tryz.func65, Tryz.ntmps65
    go_wp2_with (first | (go_at_call 125; refine (rword_any _ _).mono ?_; rintro e w' ⟨rfl, rfl⟩) | (go_at_call 71; refine (xFail_any _ _ h).mono ?_; rintro e w1 ⟨rfl, hf1, h1⟩) | (go_at_call 124; refine (HB _).out.mono ?_; rintro e w2 ⟨rfl, hf2⟩) | (go_at_call 131; refine (HP _).out.mono ?_; rintro e w3 ⟨rfl, hf3⟩) | (go_at_call 123; refine (xLays_any _ _ ((h1.fr hf2 id).fr hf3 id) (HL2.out _)).mono ?_; rintro e w4 ⟨rfl, hf4, h4⟩))
    go_end0
    rw [H2.out] at h4
    exact ⟨rfl, hf1.trans ((hf2.mono (fun _ _ h => h.elim)).trans ((hf3.mono (fun _ _ h => h.elim)).trans hf4)), h4⟩

set_option maxRecDepth 100000 in
set_option maxHeartbeats 2000000 in
theorem xCount_any {b : Nat} {st : WSt} (most n : Int) (w : World) (h : RWx w b st) (hz : st.out.size + 16 ≤ 140737488351232) :
    Calls Tryz.prog 67 #[.pointer (some ⟨b, 0, none⟩), .int .i64 most, .int .i64 n] w fun r w' => r = .returned (.tuple #[]) ∧ Fr (fun k => k = b) w w' ∧ RWx w' b (st.count most n) := by
  have h4 : st.out.size + (numStr (U64 n) 4).size ≤ 140737488351232 := by rw [numStr_size]; omega
  have h5 : ∀ e, (st.fail e).out.size + (numStr (U64 n) 4).size ≤ 140737488351232 := fun e => by rw [fail_out]; exact h4
  clear hz
  have key : st.count most n = (if isWordB most = true ∧ 0 ≤ n then (if most < n then st.fail 23 else st) else st.fail 22).lays (numStr (U64 n) 4) := by
    unfold WSt.count
    by_cases h1 : isWordB most = true ∧ 0 ≤ n
    · rw [if_pos h1, if_pos h1]
      by_cases h2 : most < n
      · rw [if_pos h2, if_pos h2, fail_lays (by decide)]
      · rw [if_neg h2, if_neg h2]
        have hw : isWordB n = true := isWordB_of ⟨h1.2, by have := h1.1; simp [isWordB] at this; omega⟩
        unfold WSt.uint
        rw [if_pos hw]
    · rw [if_neg h1, if_neg h1, fail_lays (by decide)]
  rw [key]
  clear key
  by_cases hi : isWordB most = true
  · by_cases hn : 0 ≤ n
    · rw [if_pos ⟨hi, hn⟩]
      by_cases hm : most < n
      · rw [if_pos hm]
        go_enter Tryz.func67, Tryz.ntmps67
        go_wp2_with (first | (go_at_call 125; refine (rword_any _ _).mono ?_; rintro e w' ⟨rfl, rfl⟩) | (go_at_call 71; refine (xFail_any _ _ h).mono ?_; rintro e w0 ⟨rfl, hf0, h0⟩) | (go_at_call 124; refine (By_any n 4 _ (by decide)).mono ?_; rintro e w1 ⟨rfl, hf1⟩) | (go_at_call 123; refine (xLays_any _ _ (h0.fr hf1 id) (h5 _)).mono ?_; rintro e w2 ⟨rfl, hf2, h2⟩))
        go_end0
        exact ⟨rfl, hf0.trans ((hf1.mono (fun _ _ h => h.elim)).trans hf2), h2⟩
      · rw [if_neg hm]
        go_enter Tryz.func67, Tryz.ntmps67
        go_wp2_with (first | (go_at_call 125; refine (rword_any _ _).mono ?_; rintro e w' ⟨rfl, rfl⟩) | (go_at_call 124; refine (By_any n 4 _ (by decide)).mono ?_; rintro e w1 ⟨rfl, hf1⟩) | (go_at_call 123; refine (xLays_any _ _ (h.fr hf1 id) h4).mono ?_; rintro e w2 ⟨rfl, hf2, h2⟩))
        go_end0
        exact ⟨rfl, (hf1.mono (fun _ _ h => h.elim)).trans hf2, h2⟩
    · rw [if_neg (fun h => hn h.2)]
      go_enter Tryz.func67, Tryz.ntmps67
      go_wp2_with (first | (go_at_call 125; refine (rword_any _ _).mono ?_; rintro e w' ⟨rfl, rfl⟩) | (go_at_call 71; refine (xFail_any _ _ h).mono ?_; rintro e w0 ⟨rfl, hf0, h0⟩) | (go_at_call 124; refine (By_any n 4 _ (by decide)).mono ?_; rintro e w1 ⟨rfl, hf1⟩) | (go_at_call 123; refine (xLays_any _ _ (h0.fr hf1 id) (h5 _)).mono ?_; rintro e w2 ⟨rfl, hf2, h2⟩))
      go_end0
      exact ⟨rfl, hf0.trans ((hf1.mono (fun _ _ h => h.elim)).trans hf2), h2⟩
  · rw [if_neg (fun h => hi h.1)]
    rw [Bool.not_eq_true] at hi
    go_enter Tryz.func67, Tryz.ntmps67
    go_wp2_with (first | (go_at_call 125; refine (rword_any _ _).mono ?_; rintro e w' ⟨rfl, rfl⟩) | (go_at_call 71; refine (xFail_any _ _ h).mono ?_; rintro e w0 ⟨rfl, hf0, h0⟩) | (go_at_call 124; refine (By_any n 4 _ (by decide)).mono ?_; rintro e w1 ⟨rfl, hf1⟩) | (go_at_call 123; refine (xLays_any _ _ (h0.fr hf1 id) (h5 _)).mono ?_; rintro e w2 ⟨rfl, hf2, h2⟩))
    go_end0
    exact ⟨rfl, hf0.trans ((hf1.mono (fun _ _ h => h.elim)).trans hf2), h2⟩


theorem U64_nat (n : Nat) (h : n < 18446744073709551616) : U64 (n : Int) = n := U64_of (by omega) (by omega)
set_option maxRecDepth 100000 in
theorem xFloat_any {b : Nat} {st : WSt} (x : Nat) (w : World) (h : RWx w b st) (hx : bitsF .f32 x < 4294967296) (hz : st.out.size + 16 ≤ 140737488351232) :
    Calls Tryz.prog 59 #[.pointer (some ⟨b, 0, none⟩), .float .f32 x] w fun r w' => r = .returned (.tuple #[]) ∧ Fr (fun k => k = b) w w' ∧ RWx w' b (st.float x) := by
  have hb := hx
  have h4 : st.out.size + (numStr (bitsF .f32 x : Nat) 4).size ≤ 140737488351232 := by rw [numStr_size]; omega
  have HB := Lib.hid (rBits32_any x w hx)
  have HY := fun w => Lib.hid (show Calls Tryz.prog 124 #[.int .i64 (bitsF .f32 x : Nat), .int .i64 4] w fun r w' => r = .returned (.string (numStr (bitsF .f32 x : Nat) 4)) ∧ Fr (fun _ => False) w w' by
    have := By_any (bitsF .f32 x : Nat) 4 w (by decide)
    rwa [U64_nat _ (by omega)] at this)
  have hw : IntKind.i64.wrap ((bitsF .f32 x : Nat) : Int) = (bitsF .f32 x : Nat) := by rw [IntKind.wrap_i64]; omega
  unfold WSt.float
  clear hz hx
  generalize bitsF .f32 x = B at *
  generalize numStr (B : Nat) 4 = S at *
  go_enter Tryz.func59, Tryz.ntmps59
  go_wp2_with fail
  refine HB.out.mono ?_
  rintro e w0 ⟨rfl, hw0⟩
  have hf0 : Fr (fun k => k = b) w w0 := Fr.drawn hw0 _
  have h0 : RWx w0 b st := h.keep (by rcases hw0 with rfl | rfl <;> rfl)
  clear hw0
  go_wp2_with (first | (go_at_call 124; refine (HY _).out.mono ?_; rintro e w1 ⟨rfl, hf1⟩) | (go_at_call 123; refine (xLays_any _ _ (h0.fr hf1 id) h4).mono ?_; rintro e w2 ⟨rfl, hf2, h2⟩))
  go_end0
  exact ⟨rfl, hf0.trans ((hf1.mono (fun _ _ h => h.elim)).trans hf2), h2⟩
set_option maxRecDepth 100000 in
theorem xDouble_any {b : Nat} {st : WSt} (x : Nat) (w : World) (h : RWx w b st) (hx : bitsF .f64 x < 18446744073709551616) (hz : st.out.size + 16 ≤ 140737488351232) :
    Calls Tryz.prog 62 #[.pointer (some ⟨b, 0, none⟩), .float .f64 x] w fun r w' => r = .returned (.tuple #[]) ∧ Fr (fun k => k = b) w w' ∧ RWx w' b (st.double x) := by
  have hb := hx
  have h4 : st.out.size + (numStr (bitsF .f64 x : Nat) 8).size ≤ 140737488351232 := by rw [numStr_size]; omega
  have HB := Lib.hid (rBits64_any x w hx)
  have HY := fun w => Lib.hid (show Calls Tryz.prog 124 #[.int .i64 (wrap64 (bitsF .f64 x : Nat)), .int .i64 8] w fun r w' => r = .returned (.string (numStr (bitsF .f64 x : Nat) 8)) ∧ Fr (fun _ => False) w w' by
    have := By_any (wrap64 (bitsF .f64 x : Nat)) 8 w (by decide)
    have e : U64 (wrap64 ((bitsF .f64 x : Nat) : Int)) = (bitsF .f64 x : Nat) := by
      show IntKind.u64.wrap _ = _
      rw [IntKind.wrap_u64]; unfold wrap64; omega
    rwa [e] at this)
  unfold WSt.double
  clear hz hx
  generalize hB : bitsF .f64 x = B at *
  generalize numStr (B : Nat) 8 = S at *
  go_enter Tryz.func62, Tryz.ntmps62
  go_wp2_with fail
  refine HB.out.mono ?_
  rintro e w0 ⟨rfl, hw0⟩
  obtain rfl : w = w0 := hw0
  go_wp2_with fail
  refine (HY w).out.mono ?_
  rintro e w1 ⟨rfl, hf1⟩
  go_wp2_with (go_at_call 123; refine (xLays_any _ _ (h.fr hf1 id) h4).mono ?_; rintro e w2 ⟨rfl, hf2, h2⟩)
  go_end0
  exact ⟨rfl, (hf1.mono (fun _ _ h => h.elim)).trans hf2, h2⟩
set_option maxRecDepth 100000 in
set_option maxHeartbeats 2000000 in
theorem xFixed_any {b : Nat} {st : WSt} (n : Int) (s : ByteArray) (w : World) (h : RWx w b st) (hs : st.out.size + s.size + 16 ≤ 140737488351232) :
    Calls Tryz.prog 64 #[.pointer (some ⟨b, 0, none⟩), .int .i64 n, .string s] w fun r w' => r = .returned (.tuple #[]) ∧ Fr (fun k => k = b) w w' ∧ RWx w' b (st.fixed n s) := by
  have hp := padN_lt s.size
  have HL : Hid (st.out.size + (s ++ padBA s.size).size ≤ 140737488351232) := Lib.hid (by rw [ByteArray.size_append, padBA_size]; omega)
  have HL2 : Hid (∀ e, (st.fail e).out.size + (s ++ padBA s.size).size ≤ 140737488351232) := Lib.hid (fun e => by rw [fail_out]; exact HL.out)
  have hs0 : s.size ≤ 140737488351232 := by omega
  have bp : (padBA s.size).size ≤ 3 := by rw [padBA_size]; omega
  clear hs hp
  unfold WSt.fixed padStr
  have HP := fun w => Lib.hid (Padding_any s.size w (by omega))
  generalize hy : padBA s.size = Y at *
  have HY := Lib.hid hy
  clear hy
  by_cases hi : isWordB n = true
  · rw [if_pos hi]
    by_cases hm : (s.size : Int) = n
    · rw [if_pos hm]
      have hne : ((s.size : Int) != n) = false := by simpa using hm
      clear hm
      go_enter Tryz.func64, Tryz.ntmps64
      go_wp2_with (first | (go_at_call 125; refine (rword_any _ _).mono ?_; rintro e w' ⟨rfl, rfl⟩) | (go_at_call 131; refine (HP _).out.mono ?_; rintro e w3 ⟨rfl, hf3⟩) | (go_at_call 123; refine (xLays_any _ _ (h.fr hf3 id) HL.out).mono ?_; rintro e w4 ⟨rfl, hf4, h4⟩))
      go_end0
      exact ⟨rfl, (hf3.mono (fun _ _ h => h.elim)).trans hf4, h4⟩
    · rw [if_neg hm]
      have hne : ((s.size : Int) != n) = true := by simpa using hm
      have H2 := Lib.hid (fail_lays (st := st) (e := 23) (by decide) (s ++ Y))
      clear hm
      go_enter Tryz.func64, Tryz.ntmps64
      go_wp2_with (first | (go_at_call 125; refine (rword_any _ _).mono ?_; rintro e w' ⟨rfl, rfl⟩) | (go_at_call 71; refine (xFail_any _ _ h).mono ?_; rintro e w1 ⟨rfl, hf1, h1⟩) | (go_at_call 131; refine (HP _).out.mono ?_; rintro e w3 ⟨rfl, hf3⟩) | (go_at_call 123; refine (xLays_any _ _ (h1.fr hf3 id) (HL2.out _)).mono ?_; rintro e w4 ⟨rfl, hf4, h4⟩))
      go_end0
      rw [H2.out] at h4
      exact ⟨rfl, hf1.trans ((hf3.mono (fun _ _ h => h.elim)).trans hf4), h4⟩
  · rw [if_neg hi]
    have H2 := Lib.hid (fail_lays (st := st) (e := 22) (by decide) (s ++ Y))
    rw [Bool.not_eq_true] at hi
    go_enter Tryz.func64, Tryz.ntmps64
    go_wp2_with (first | (go_at_call 125; refine (rword_any _ _).mono ?_; rintro e w' ⟨rfl, rfl⟩) | (go_at_call 71; refine (xFail_any _ _ h).mono ?_; rintro e w1 ⟨rfl, hf1, h1⟩) | (go_at_call 131; refine (HP _).out.mono ?_; rintro e w3 ⟨rfl, hf3⟩) | (go_at_call 123; refine (xLays_any _ _ (h1.fr hf3 id) (HL2.out _)).mono ?_; rintro e w4 ⟨rfl, hf4, h4⟩))
    go_end0
    rw [H2.out] at h4
    exact ⟨rfl, hf1.trans ((hf3.mono (fun _ _ h => h.elim)).trans hf4), h4⟩
end Go.Proofs.YtlcjfafmmoncpaaGreatDoor
