/- The document's Writer (callboxref02): it does what the Writer of package xdr does. -/
import Derived.Test.YtbegjpmifcnieaaGreatDoorXi
import Derived.Laws.OwnMore
import Derived.Laws.Bits128
import Derived.OwnWalk
namespace Go.Proofs.YtbegjpmifcnieaaGreatDoor
open Go.RowKit
set_option linter.unusedVariables false
set_option linter.unusedSimpArgs false

theorem i64_and255 (n : Int) : bits .and .i64 n 255 = n % 256 := by
  have h255 : (BitVec.ofInt 64 255).toNat = 2 ^ 8 - 1 := by decide
  have key : (BitVec.ofInt 64 n &&& BitVec.ofInt 64 255).toNat = (n % ((2 ^ 64 : Nat) : Int)).toNat % 2 ^ 8 := by
    rw [BitVec.toNat_and, BitVec.toNat_ofInt, h255, Nat.and_two_pow_sub_one_eq_mod]
  show IntKind.i64.wrap ((BitVec.ofInt 64 n &&& BitVec.ofInt 64 255).toNat : Nat) = n % 256
  rw [key, IntKind.wrap_i64]
  omega
theorem byteUp_u64 (n : Int) (k : Nat) (hk : k < 8) : byteUp (U64 n) (8 * k) = n / 256 ^ k % 256 := by
  unfold byteUp U64
  rw [show IntKind.u64.wrap n = n % 18446744073709551616 by simp [IntKind.wrap, IntKind.bits, IntKind.signed]]
  rcases (by omega : k = 0 ∨ k = 1 ∨ k = 2 ∨ k = 3 ∨ k = 4 ∨ k = 5 ∨ k = 6 ∨ k = 7) with h | h | h | h | h | h | h | h <;> subst h <;> simp <;> omega

/-- the bytes of By, k of them laid. -/
def byInts (n : Int) (B k : Nat) : List Int := (List.range B).map fun j => if B ≤ k + j then byteUp (U64 n) (8 * (B - 1 - j)) else 0
theorem byInts_length (n : Int) (B k : Nat) : (byInts n B k).length = B := by simp [byInts]
theorem byInts_zero (n : Int) (B : Nat) : byInts n B 0 = List.replicate B 0 := by
  apply List.ext_getElem
  · simp [byInts]
  · intro i h1 h2
    simp [byInts] at h1 ⊢
    omega
theorem byInts_full (n : Int) (B : Nat) : byInts n B B = numInts (U64 n) B B := by
  unfold byInts numInts
  apply List.map_congr_left
  intro j hj
  rw [if_pos (by omega)]
theorem byInts_succ (n : Int) (B k : Nat) (hk : k < B) (hB : B ≤ 8) : byInts n B (k + 1) = (byInts n B k).set (B - 1 - k) (n / 256 ^ k % 256) := by
  apply List.ext_getElem
  · simp [byInts]
  · intro j h1 h2
    rw [List.getElem_set]
    simp only [byInts, List.getElem_map, List.getElem_range]
    have hj : j < B := by simpa [byInts] using h1
    by_cases he : B - 1 - k = j
    · rw [if_pos he, if_pos (by omega), show B - 1 - j = k by omega, byteUp_u64 n k (by omega)]
    · rw [if_neg he]
      by_cases hle : B ≤ k + j
      · rw [if_pos hle, if_pos (by omega)]
      · rw [if_neg hle, if_neg (by omega)]
theorem rword_any (n : Int) (w : World) : Calls Tryz.prog 198 #[.int .i64 n] w fun r w' => r = .returned (.bool (isWordB n)) ∧ w = w' := by
  by_cases h : 0 ≤ n
  · by_cases h2 : n ≤ 4294967295
    · rw [isWordB_of ⟨h, h2⟩]
      go_enter Tryz.func198, Tryz.ntmps198
      go_wp2
      go_ret
      exact ⟨rfl, rfl⟩
    · rw [isWordB_no (fun h => h2 h.2)]
      go_enter Tryz.func198, Tryz.ntmps198
      go_wp2
      go_ret
      exact ⟨rfl, rfl⟩
  · rw [isWordB_no (fun h2 => h h2.1)]
    go_enter Tryz.func198, Tryz.ntmps198
    go_wp2
    go_ret
    exact ⟨rfl, rfl⟩

set_option maxRecDepth 100000 in
set_option maxHeartbeats 2000000 in
theorem By_any (n : Int) (B : Nat) (w : World) (hB : 1 ≤ B ∧ B ≤ 8) :
    Calls Tryz.prog 192 #[.int .i64 n, .int .i64 B] w fun r w' => r = .returned (.string (numStr (U64 n) B)) ∧ Fr (fun _ => False) w w' := by
  obtain ⟨i0, hi, hz0, hz1, hz2⟩ := info_parts Tryz.infoU8
  obtain ⟨hB1, hB8⟩ := hB
  go_enter Tryz.func192, Tryz.ntmps192
  go_wp2_with (at_make; refine wpList_make_full _ rfl _ _ 284 rfl w.heap.size 5 i0 (.int .u8 0) 1 Tryz.underlying284 hi hz0 hz1 .i64 .i64 B B B rfl rfl rfl rfl (by rw [hz2]; omega) (by unfold maxLen; omega) (Nat.le_refl _) ?_)
  intro w1 hown hgrow
  have e0 : (madeCells (Value.int .u8 0).cells (B * 1)).toList = (byInts n B 0).map (Value.int .u8) := by
    rw [byInts_zero, Nat.mul_one, List.map_replicate]
    apply List.ext_getElem
    · simp [madeCells, Value.cells]
    · intro i h1 h2
      simp [madeCells, Value.cells, Nat.mod_one]
  have hown := e0 ▸ (show w1.ownsRow w.heap.size 5 1 _ B (madeCells (Value.int .u8 0).cells (B * 1)).toList by simpa [Value.cells] using hown)
  have Ho := Lib.hid hown
  have Hb : Hid (Below w.heap.size w w1) := Lib.hid ((Below.refl _ _).grown hgrow (Nat.le_refl _) (fun k e => by cases e))
  clear hown hgrow e0
  go_wp2
  go_loopw [0, 6] (fun m i wr => ∃ k : Nat, k ≤ B ∧ m = .int .i64 (n / 256 ^ k) ∧ i = .int .i64 ((B : Int) - 1 - k) ∧ Hid (wr.ownsRow w.heap.size 5 1 (.slice (some ⟨w.heap.size, 0, none⟩) B B) B ((byInts n B k).map (Value.int .u8))) ∧ Hid (Below w.heap.size w wr)) (fun _ i _ => (intOf i + 1).toNat)
  case atStart => exact ⟨0, Nat.zero_le _, by simp, by simp, Ho, Hb⟩
  case round =>
    obtain ⟨k, hk, rfl, rfl, HO, HB⟩ := hrel
    clear Ho Hb
    by_cases hlt : k < B
    · have hge : (0 : Int) ≤ (B : Int) - 1 - k := by omega
      have hge2 : ((B : Int) - 1 - k).toNat = B - 1 - k := by omega
      have hlt2 : (B : Int) - 1 - k < B := by omega
      have hand := i64_and255 (n / 256 ^ k)
      have hsu := byInts_succ n B k hlt hB8
      have hcell : ∃ v, wr.cell? ⟨w.heap.size, B - 1 - k, none⟩ = some v := ⟨_, (HO.out.cellAt (B - 1 - k) (by omega)).trans (List.getElem?_eq_getElem (by rw [List.length_map, byInts_length]; omega))⟩
      have hfz : wr.frozen? ⟨w.heap.size, B - 1 - k, none⟩ = false := HO.out.frozenAt (B - 1 - k)
      have hnx : n / 256 ^ (k + 1) = n / 256 ^ k / 256 := by rw [Int.pow_succ, ← Int.ediv_ediv_of_nonneg (Int.le_of_lt (Int.pow_pos (by decide)))]
      have HS := Lib.hid hsu
      have HN := Lib.hid hnx
      clear hsu hnx
      obtain ⟨v, hv⟩ := hcell
      generalize n / 256 ^ k = m at *
      go_wp2
      have hst := (HO.out.stored (B - 1 - k) (.int .u8 (m % 256))).1
      rw [← List.map_set, ← HS.out] at hst
      exact ⟨⟨k + 1, by omega, by rw [HN.out], by congr 1; omega, Lib.hid hst, Lib.hid (HB.out.setCell (Nat.le_refl _) _)⟩, by simp [intOf]; omega⟩
    · have hk2 : B = k := by omega
      subst hk2
      have hlt3 : ¬ (0 : Int) ≤ (B : Int) - 1 - B := by omega
      have ho := HO.out
      rw [byInts_full] at ho
      have hcv := run_ownBytes (P := Tryz.prog) (w := wr) (ns := numInts (U64 n) B B) 284 9 Tryz.underlying284 Tryz.underlying5 Tryz.underlying9 (by rw [numInts_length]; exact ho)
      have hf : Fr (fun _ => False) w wr := Fr.ofBelow HB.out
      clear ho hlt
      go_wp2
      go_ret
      exact ⟨rfl, hf⟩

/-- the document's Writer. -/
structure RWr (w : World) (b : Nat) (st : WSt) : Prop where
  blk : w.heap[b]? = some (.cells #[.string st.out, .int .i64 st.most, .int .i64 st.e] 220 (0, 0))
  ok : WOk st
theorem RWr.keep {w w' : World} {b : Nat} {st : WSt} (h : RWr w b st) (hk : w'.heap[b]? = w.heap[b]?) : RWr w' b st := ⟨hk.trans h.blk, h.ok⟩
theorem RWr.lt {w : World} {b : Nat} {st : WSt} (h : RWr w b st) : b < w.heap.size := lt_of_block h.blk
theorem RWr.fr {w w' : World} {S : Nat → Prop} {b : Nat} {st : WSt} (h : RWr w b st) (hf : Fr S w w') (hs : ¬ S b) : RWr w' b st := h.keep (hf.block _ h.lt hs)

theorem fail_lays {st : WSt} {e : Int} (he : e ≠ 0) (s : ByteArray) : (st.fail e).lays s = st.fail e := by
  have : (st.fail e).e ≠ 0 := by unfold WSt.fail; split <;> assumption
  simp [WSt.lays, this]

set_option maxRecDepth 100000 in
theorem rNew_any (m : Int) (w : World) (h2 : m ≤ 1099511627776) :
    Calls Tryz.prog 114 #[.int .i64 m] w fun r w' => r = .returned (.pointer (some ⟨w.heap.size, 0, none⟩)) ∧ Fr (fun _ => False) w w' ∧ RWr w' w.heap.size ⟨ByteArray.empty, max m 0, 0⟩ := by
  go_enter Tryz.func114, Tryz.ntmps114
  go_wp2
  go_ret
  exact ⟨rfl, (Fr.refl _ _).alloc _, heap_alloc_new w _, by show ((0 : Nat) : Int) ≤ max m 0; omega, by show max m 0 ≤ _; omega⟩

set_option maxRecDepth 100000 in
theorem rFail_any {b : Nat} {st : WSt} (n : Int) (w : World) (h : RWr w b st) :
    Calls Tryz.prog 199 #[.pointer (some ⟨b, 0, none⟩), .int .i64 n] w fun r w' => r = .returned (.tuple #[]) ∧ Fr (fun k => k = b) w w' ∧ RWr w' b (st.fail n) := by
  have c2 := cellOf h.blk 2
  have f2 := freeOf h.blk 2
  simp at c2
  have H := Lib.hid h
  clear h
  by_cases he : st.e = 0
  · have e : st.fail n = { st with e := n } := by simp [WSt.fail, he]
    have hb : (st.e == 0) = true := by simpa using he
    rw [e]
    clear e he
    go_enter Tryz.func199, Tryz.ntmps199
    go_wp2
    go_end0
    exact ⟨rfl, Fr.setCell (S := fun k => k = b) (p := ⟨b, 2, none⟩) (Fr.refl _ _) (.inl rfl) _, (setOf' H.out.blk 2 _).trans (by simp), H.out.ok⟩
  · have e : st.fail n = st := by simp [WSt.fail, he]
    have hb : (st.e == 0) = false := by simpa using he
    rw [e]
    clear e he
    go_enter Tryz.func199, Tryz.ntmps199
    go_wp2
    go_end0
    exact ⟨rfl, Fr.refl _ _, H.out⟩

set_option maxRecDepth 100000 in
theorem rLays_any {b : Nat} {st : WSt} (s : ByteArray) (w : World) (h : RWr w b st) (hs : s.size ≤ 140737488355328) :
    Calls Tryz.prog 191 #[.pointer (some ⟨b, 0, none⟩), .string s] w fun r w' => r = .returned (.tuple #[]) ∧ Fr (fun k => k = b) w w' ∧ RWr w' b (st.lays s) := by
  have c0 := cellOf h.blk 0
  have c1 := cellOf h.blk 1
  have c2 := cellOf h.blk 2
  have f0 := freeOf h.blk 0
  have f2 := freeOf h.blk 2
  simp at c0 c1 c2
  have hok := h.ok.lays s
  have hsz := h.ok.size
  have hm := h.ok.2
  have H := Lib.hid h
  clear h
  by_cases he : st.e = 0
  · have hb : (st.e != 0) = false := by simpa using he
    by_cases hlt : st.most < (st.out.size : Int) + s.size
    · have e : st.lays s = { st with e := 23 } := by
        unfold WSt.lays; rw [if_pos he, if_pos (by omega)]
      rw [e] at hok ⊢
      have HK := Lib.hid hok
      clear e he hok
      go_enter Tryz.func191, Tryz.ntmps191
      go_wp2
      go_quiet (fail)
      go_wp2
      refine bodyPost_ret (results_none rfl _ _ _) rfl ?_
      exact ⟨rfl, Fr.setCell (S := fun k => k = b) (p := ⟨b, 2, none⟩) ((Fr.refl _ _).drewN _) (.inl rfl) _, (setOf' (w := w.drewN nq) (by exact H.out.blk) 2 _).trans (by simp), HK.out⟩
    · have e : st.lays s = { st with out := st.out ++ s } := by
        unfold WSt.lays; rw [if_pos he, if_neg (by omega)]
      rw [e] at hok ⊢
      have HK := Lib.hid hok
      clear e he hok
      go_enter Tryz.func191, Tryz.ntmps191
      go_wp2
      go_quiet (fail)
      go_wp2

      go_end0
      exact ⟨rfl, Fr.setCell (S := fun k => k = b) (p := ⟨b, 0, none⟩) ((Fr.refl _ _).drewN _) (.inl rfl) _, (setOf' (w := w.drewN nq) (by exact H.out.blk) 0 _).trans (by simp), HK.out⟩
  · have hb : (st.e != 0) = true := by simpa using he
    have e : st.lays s = st := by simp [WSt.lays, he]
    rw [e]
    clear e he hok
    go_enter Tryz.func191, Tryz.ntmps191
    go_wp2
    refine bodyPost_ret (results_none rfl _ _ _) rfl ?_
    exact ⟨rfl, Fr.refl _ _, H.out⟩

set_option maxRecDepth 100000 in
theorem rUint_any {b : Nat} {st : WSt} (n : Int) (w : World) (h : RWr w b st) :
    Calls Tryz.prog 118 #[.pointer (some ⟨b, 0, none⟩), .int .i64 n] w fun r w' => r = .returned (.tuple #[]) ∧ Fr (fun k => k = b) w w' ∧ RWr w' b (st.uint n) := by
  have h4 : (numStr (U64 n) 4).size ≤ 140737488355328 := by rw [numStr_size]; decide
  unfold WSt.uint
  by_cases hi : isWordB n = true
  · simp only [hi, if_true]
    go_enter Tryz.func118, Tryz.ntmps118
    go_wp2_with (first | (go_at_call 198; refine (rword_any _ _).mono ?_; rintro e w' ⟨rfl, rfl⟩) | (go_at_call 192; refine (By_any n 4 _ (by decide)).mono ?_; rintro e w1 ⟨rfl, hf1⟩) | (go_at_call 191; refine (rLays_any _ _ (h.fr hf1 id) h4).mono ?_; rintro e w2 ⟨rfl, hf2, h2⟩))

    go_end0
    exact ⟨rfl, (hf1.mono (fun _ _ h => h.elim)).trans hf2, h2⟩
  · rw [Bool.not_eq_true] at hi
    simp only [hi, if_false, Bool.false_eq_true]
    go_enter Tryz.func118, Tryz.ntmps118
    go_wp2_with (first | (go_at_call 198; refine (rword_any _ _).mono ?_; rintro e w' ⟨rfl, rfl⟩) | (go_at_call 199; refine (rFail_any _ _ h).mono ?_; rintro e w0 ⟨rfl, hf0, h0⟩) | (go_at_call 192; refine (By_any n 4 _ (by decide)).mono ?_; rintro e w1 ⟨rfl, hf1⟩) | (go_at_call 191; refine (rLays_any _ _ (h0.fr hf1 id) h4).mono ?_; rintro e w2 ⟨rfl, hf2, h2⟩))
    go_end0
    exact ⟨rfl, hf0.trans ((hf1.mono (fun _ _ h => h.elim)).trans hf2), h2⟩

set_option maxRecDepth 100000 in
theorem rHyper_any {b : Nat} {st : WSt} (n : Int) (w : World) (h : RWr w b st) :
    Calls Tryz.prog 115 #[.pointer (some ⟨b, 0, none⟩), .int .i64 n] w fun r w' => r = .returned (.tuple #[]) ∧ Fr (fun k => k = b) w w' ∧ RWr w' b (st.hyper n) := by
  have h4 : (numStr (U64 n) 8).size ≤ 140737488355328 := by rw [numStr_size]; decide
  unfold WSt.hyper
  go_enter Tryz.func115, Tryz.ntmps115
  go_wp2_with (first | (go_at_call 192; refine (By_any n 8 _ (by decide)).mono ?_; rintro e w1 ⟨rfl, hf1⟩) | (go_at_call 191; refine (rLays_any _ _ (h.fr hf1 id) h4).mono ?_; rintro e w2 ⟨rfl, hf2, h2⟩))
  go_end0
  exact ⟨rfl, (hf1.mono (fun _ _ h => h.elim)).trans hf2, h2⟩
end Go.Proofs.YtbegjpmifcnieaaGreatDoor

/- The document's Writer (callboxref02): texts, counts, its end. -/
namespace Go.Proofs.YtbegjpmifcnieaaGreatDoor
open Go.RowKit
set_option linter.unusedVariables false
set_option linter.unusedSimpArgs false

theorem padBA_foldl (n : Nat) : (List.replicate (padN n) (0 : Int)).foldl (fun r n => r.push (UInt8.ofNat n.toNat)) ByteArray.empty = padBA n := by
  have h := foldl_bytes (List.replicate (padN n) (0 : UInt8)) ByteArray.empty
  rw [List.map_replicate] at h
  simp only [UInt8.toNat_zero, Int.ofNat_zero, Int.natCast_zero] at h
  have e : Lib.repeatL [0] (padN n) = List.replicate (padN n) (0 : UInt8) := by
    have key : ∀ k, Lib.repeatL [0] k = List.replicate k (0 : UInt8) := by
      intro k
      induction k with
      | zero => rfl
      | succ k ih => rw [Lib.repeatL, ih, List.replicate_succ]; rfl
    exact key _
  unfold padBA
  rw [e]
  refine Eq.trans ?_ (h.trans ?_)
  · rfl
  · simp

set_option maxRecDepth 100000 in
theorem Padding_any (n : Nat) (w : World) (hn : n ≤ 140737488355328) :
    Calls Tryz.prog 243 #[.int .i64 n] w fun r w' => r = .returned (.string (padBA n)) ∧ Fr (fun _ => False) w w' := by
  obtain ⟨i0, hi, hz0, hz1, hz2⟩ := info_parts Tryz.infoU8
  have hp := padN_lt n
  have hd : (4 - (n : Int) % 4) % 4 = (padN n : Int) := by unfold padN; omega
  have HD := Lib.hid hd
  clear hd
  go_enter Tryz.func243, Tryz.ntmps243
  go_wp2_with (at_make; refine wpList_make_full _ rfl _ _ 284 rfl w.heap.size 5 i0 (.int .u8 0) 1 Tryz.underlying284 hi hz0 hz1 .i64 .i64 ((4 - (n : Int) % 4) % 4) ((4 - (n : Int) % 4) % 4) (padN n) rfl rfl HD.out HD.out (by rw [hz2]; omega) (by unfold maxLen; omega) (Nat.le_refl _) ?_)
  intro w1 hown hgrow
  have e0 : (madeCells (Value.int .u8 0).cells (padN n * 1)).toList = (List.replicate (padN n) (0 : Int)).map (Value.int .u8) := by
    rw [Nat.mul_one, List.map_replicate]
    apply List.ext_getElem
    · simp [madeCells, Value.cells]
    · intro i h1 h2
      simp [madeCells, Value.cells, Nat.mod_one]
  have hown := e0 ▸ (show w1.ownsRow w.heap.size 5 1 _ (padN n) (madeCells (Value.int .u8 0).cells (padN n * 1)).toList by simpa [Value.cells] using hown)
  have hcv := run_ownBytes (P := Tryz.prog) (w := w1) (ns := List.replicate (padN n) (0 : Int)) 284 9 Tryz.underlying284 Tryz.underlying5 Tryz.underlying9 (by rw [List.length_replicate]; exact hown)
  rw [padBA_foldl] at hcv
  have hf : Fr (fun _ => False) w w1 := Fr.ofBelow ((Below.refl _ _).grown hgrow (Nat.le_refl _) (fun k e => by cases e))
  clear hown hgrow e0
  go_wp2
  go_ret
  exact ⟨rfl, hf⟩

theorem fail_twice {st : WSt} {e : Int} (h : st.e ≠ 0) : st.fail e = st := by simp [WSt.fail, h]
theorem fail_ne {st : WSt} {e : Int} (he : e ≠ 0) : (st.fail e).e ≠ 0 := by unfold WSt.fail; split <;> assumption

set_option maxRecDepth 100000 in
set_option maxHeartbeats 2000000 in
theorem rOpaque_any {b : Nat} {st : WSt} (most : Int) (s : ByteArray) (w : World) (h : RWr w b st) (hs : s.size ≤ 140737488351232) :
    Calls Tryz.prog 193 #[.pointer (some ⟨b, 0, none⟩), .int .i64 most, .string s] w fun r w' => r = .returned (.tuple #[]) ∧ Fr (fun k => k = b) w w' ∧ RWr w' b (st.opq most s) := by
  have hp := padN_lt s.size
  have b4 : (numStr (U64 s.size) 4).size ≤ 4 := Nat.le_of_eq (numStr_size _ _)
  have bp : (padBA s.size).size ≤ 3 := by rw [padBA_size]; exact hp
  have HL : Hid ((numStr (U64 s.size) 4 ++ s ++ padBA s.size).size ≤ 140737488355328) := Lib.hid (by rw [ByteArray.size_append, ByteArray.size_append]; omega)
  have he : numStr (U64 s.size) 4 ++ s ++ padBA s.size = numStr (U64 s.size) 4 ++ padStr s := by unfold padStr; rw [ByteArray.append_assoc]
  have HE := Lib.hid he
  clear he hp
  generalize hx : numStr (U64 s.size) 4 = X at *
  generalize hy : padBA s.size = Y at *
  have HX := Lib.hid hx
  have HY := Lib.hid hy
  clear hx hy
  have HB := fun w => Lib.hid (show Calls Tryz.prog 192 #[.int .i64 (s.size : Int), .int .i64 4] w fun r w' => r = .returned (.string X) ∧ Fr (fun _ => False) w w' from HX.out ▸ By_any s.size 4 w (by decide))
  have HP := fun w => Lib.hid (show Calls Tryz.prog 243 #[.int .i64 (s.size : Int)] w fun r w' => r = .returned (.string Y) ∧ Fr (fun _ => False) w w' from HY.out ▸ Padding_any s.size w (by omega))
  have hbig : (X ++ s).size ≤ 140737488351238 := by rw [ByteArray.size_append]; omega
  by_cases hi : isWordB most = true
  · by_cases hm : most < s.size
    · have e : st.opq most s = st.fail 23 := by simp [WSt.opq, hi, hm]
      have e2 := fail_lays (st := st) (e := 23) (by decide) (X ++ s ++ Y)
      rw [e]
      have H2 := Lib.hid e2
      clear e e2
      go_enter Tryz.func193, Tryz.ntmps193
      go_wp2_with (first | (go_at_call 198; refine (rword_any _ _).mono ?_; rintro e w' ⟨rfl, rfl⟩) | (go_at_call 199; refine (rFail_any _ _ h).mono ?_; rintro e w1 ⟨rfl, hf1, h1⟩) | (go_at_call 192; refine (HB _).out.mono ?_; rintro e w2 ⟨rfl, hf2⟩) | (go_at_call 243; refine (HP _).out.mono ?_; rintro e w3 ⟨rfl, hf3⟩) | (go_at_call 191; refine (rLays_any _ _ ((h1.fr hf2 id).fr hf3 id) HL.out).mono ?_; rintro e w4 ⟨rfl, hf4, h4⟩))
      go_end0
      rw [H2.out] at h4
      exact ⟨rfl, hf1.trans ((hf2.mono (fun _ _ h => h.elim)).trans ((hf3.mono (fun _ _ h => h.elim)).trans hf4)), h4⟩
    · have e : st.opq most s = st.lays (X ++ s ++ Y) := by
        rw [HE.out, ← HX.out]
        simp only [WSt.opq, hi, if_true, hm, false_or]
        by_cases h2 : st.most < s.size
        · rw [if_pos h2]
          have hsz : st.most - st.out.size < (numStr (U64 s.size) 4 ++ padStr s).size := by rw [ByteArray.size_append, padStr_size]; omega
          by_cases h3 : st.e = 0
          · simp only [WSt.lays, WSt.fail, if_pos h3, if_pos hsz]
          · simp only [WSt.lays, WSt.fail, if_neg h3]
        · rw [if_neg h2]
      rw [e]
      clear e
      go_enter Tryz.func193, Tryz.ntmps193
      go_wp2_with (first | (go_at_call 198; refine (rword_any _ _).mono ?_; rintro e w' ⟨rfl, rfl⟩) | (go_at_call 192; refine (HB _).out.mono ?_; rintro e w2 ⟨rfl, hf2⟩) | (go_at_call 243; refine (HP _).out.mono ?_; rintro e w3 ⟨rfl, hf3⟩) | (go_at_call 191; refine (rLays_any _ _ ((h.fr hf2 id).fr hf3 id) HL.out).mono ?_; rintro e w4 ⟨rfl, hf4, h4⟩))
      go_end0
      exact ⟨rfl, (hf2.mono (fun _ _ h => h.elim)).trans ((hf3.mono (fun _ _ h => h.elim)).trans hf4), h4⟩
  · have e : st.opq most s = st.fail 22 := by simp [WSt.opq, hi]
    have e2 := fail_lays (st := st) (e := 22) (by decide) (X ++ s ++ Y)
    rw [e]
    have H2 := Lib.hid e2
    clear e e2
    rw [Bool.not_eq_true] at hi
    go_enter Tryz.func193, Tryz.ntmps193
    go_wp2_with (first | (go_at_call 198; refine (rword_any _ _).mono ?_; rintro e w' ⟨rfl, rfl⟩) | (go_at_call 199; refine (rFail_any _ _ h).mono ?_; rintro e w1 ⟨rfl, hf1, h1⟩) | (go_at_call 192; refine (HB _).out.mono ?_; rintro e w2 ⟨rfl, hf2⟩) | (go_at_call 243; refine (HP _).out.mono ?_; rintro e w3 ⟨rfl, hf3⟩) | (go_at_call 191; refine (rLays_any _ _ ((h1.fr hf2 id).fr hf3 id) HL.out).mono ?_; rintro e w4 ⟨rfl, hf4, h4⟩))
    go_end0
    rw [H2.out] at h4
    exact ⟨rfl, hf1.trans ((hf2.mono (fun _ _ h => h.elim)).trans ((hf3.mono (fun _ _ h => h.elim)).trans hf4)), h4⟩

set_option maxRecDepth 100000 in
set_option maxHeartbeats 2000000 in
theorem rCount_any {b : Nat} {st : WSt} (most n : Int) (w : World) (h : RWr w b st) :
    Calls Tryz.prog 194 #[.pointer (some ⟨b, 0, none⟩), .int .i64 most, .int .i64 n] w fun r w' => r = .returned (.tuple #[]) ∧ Fr (fun k => k = b) w w' ∧ RWr w' b (st.count most n) := by
  have h4 : (numStr (U64 n) 4).size ≤ 140737488355328 := by rw [numStr_size]; decide
  have key : st.count most n = (if isWordB most = true ∧ 0 ≤ n then (if most < n then st.fail 23 else st) else st.fail 22).lays (numStr (U64 n) 4) := by
    unfold WSt.count
    by_cases h1 : isWordB most = true ∧ 0 ≤ n
    · rw [if_pos h1, if_pos h1]
      by_cases h2 : most < n
      · rw [if_pos h2, if_pos h2, fail_lays (by decide)]
      · rw [if_neg h2, if_neg h2]
        have hw : isWordB n = true := isWordB_of ⟨h1.2, by have := h1.1; simp [isWordB] at this; omega⟩
        unfold WSt.uint
        rw [if_pos hw]
    · rw [if_neg h1, if_neg h1, fail_lays (by decide)]
  rw [key]
  clear key
  by_cases hi : isWordB most = true
  · by_cases hn : 0 ≤ n
    · rw [if_pos ⟨hi, hn⟩]
      by_cases hm : most < n
      · rw [if_pos hm]
        go_enter Tryz.func194, Tryz.ntmps194
        go_wp2_with (first | (go_at_call 198; refine (rword_any _ _).mono ?_; rintro e w' ⟨rfl, rfl⟩) | (go_at_call 199; refine (rFail_any _ _ h).mono ?_; rintro e w0 ⟨rfl, hf0, h0⟩) | (go_at_call 192; refine (By_any n 4 _ (by decide)).mono ?_; rintro e w1 ⟨rfl, hf1⟩) | (go_at_call 191; refine (rLays_any _ _ (h0.fr hf1 id) h4).mono ?_; rintro e w2 ⟨rfl, hf2, h2⟩))
        go_end0
        exact ⟨rfl, hf0.trans ((hf1.mono (fun _ _ h => h.elim)).trans hf2), h2⟩
      · rw [if_neg hm]
        go_enter Tryz.func194, Tryz.ntmps194
        go_wp2_with (first | (go_at_call 198; refine (rword_any _ _).mono ?_; rintro e w' ⟨rfl, rfl⟩) | (go_at_call 192; refine (By_any n 4 _ (by decide)).mono ?_; rintro e w1 ⟨rfl, hf1⟩) | (go_at_call 191; refine (rLays_any _ _ (h.fr hf1 id) h4).mono ?_; rintro e w2 ⟨rfl, hf2, h2⟩))
        go_end0
        exact ⟨rfl, (hf1.mono (fun _ _ h => h.elim)).trans hf2, h2⟩
    · rw [if_neg (fun h => hn h.2)]
      go_enter Tryz.func194, Tryz.ntmps194
      go_wp2_with (first | (go_at_call 198; refine (rword_any _ _).mono ?_; rintro e w' ⟨rfl, rfl⟩) | (go_at_call 199; refine (rFail_any _ _ h).mono ?_; rintro e w0 ⟨rfl, hf0, h0⟩) | (go_at_call 192; refine (By_any n 4 _ (by decide)).mono ?_; rintro e w1 ⟨rfl, hf1⟩) | (go_at_call 191; refine (rLays_any _ _ (h0.fr hf1 id) h4).mono ?_; rintro e w2 ⟨rfl, hf2, h2⟩))
      go_end0
      exact ⟨rfl, hf0.trans ((hf1.mono (fun _ _ h => h.elim)).trans hf2), h2⟩
  · rw [if_neg (fun h => hi h.1)]
    rw [Bool.not_eq_true] at hi
    go_enter Tryz.func194, Tryz.ntmps194
    go_wp2_with (first | (go_at_call 198; refine (rword_any _ _).mono ?_; rintro e w' ⟨rfl, rfl⟩) | (go_at_call 199; refine (rFail_any _ _ h).mono ?_; rintro e w0 ⟨rfl, hf0, h0⟩) | (go_at_call 192; refine (By_any n 4 _ (by decide)).mono ?_; rintro e w1 ⟨rfl, hf1⟩) | (go_at_call 191; refine (rLays_any _ _ (h0.fr hf1 id) h4).mono ?_; rintro e w2 ⟨rfl, hf2, h2⟩))
    go_end0
    exact ⟨rfl, hf0.trans ((hf1.mono (fun _ _ h => h.elim)).trans hf2), h2⟩

set_option maxRecDepth 100000 in
theorem rDone_any {b : Nat} {st : WSt} (w : World) (h : RWr w b st) :
    Calls Tryz.prog 120 #[.pointer (some ⟨b, 0, none⟩)] w fun r w' => r = .returned (.tuple #[.string st.body, .int .i64 st.e]) ∧ Fr (fun _ => False) w w' := by
  have c0 := cellOf h.blk 0
  have c2 := cellOf h.blk 2
  simp at c0 c2
  by_cases he : st.e = 0
  · have hb : (st.e != 0) = false := by simpa using he
    rw [show st.body = st.out from if_pos he, he]
    rw [he] at c2
    clear he
    go_enter Tryz.func120, Tryz.ntmps120
    go_wp2
    go_ret2
    exact ⟨rfl, Fr.refl _ _⟩
  · have hb : (st.e != 0) = true := by simpa using he
    rw [show st.body = ByteArray.empty from if_neg he]
    clear he
    go_enter Tryz.func120, Tryz.ntmps120
    go_wp2
    go_quiet (fail)
    go_wp2
    go_ret2
    exact ⟨rfl, (Fr.refl _ _).drewN _⟩
end Go.Proofs.YtbegjpmifcnieaaGreatDoor
