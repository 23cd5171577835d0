/- Plain laws of the notation of numbers and texts: what is laid down is read as it was; what is read is laid down as it was. No program stands here. -/
import Derived.Test.YtbegjpmifcnieaaGreatDoorRt
namespace Go.Proofs.YtbegjpmifcnieaaGreatDoor
open Go.RowKit
set_option linter.unusedVariables false
set_option linter.unusedSimpArgs false

theorem push_list (l : List Int) : ∀ r : ByteArray, l.foldl (fun r n => r.push (UInt8.ofNat n.toNat)) r = r ++ ⟨(l.map fun n => UInt8.ofNat n.toNat).toArray⟩ := by
  induction l with
  | nil => intro r; apply ByteArray.ext; simp
  | cons a l ih =>
    intro r
    rw [List.foldl_cons, ih]
    apply ByteArray.ext
    simp [ByteArray.data_append, ByteArray.push]
theorem numStr_data (n : Int) (B : Nat) : (numStr n B).data.toList = (numInts n B B).map fun n => UInt8.ofNat n.toNat := by
  unfold numStr; rw [push_list]; simp [ByteArray.data_append]
theorem byte_of (n : Int) : (UInt8.ofNat (n % 256).toNat).toNat = (n % 256).toNat := by
  rw [UInt8.toNat_ofNat']; omega
theorem beN_append (a b : ByteArray) (k : Nat) (h : k ≤ a.size) : beN (a ++ b) k = beN a k := by
  unfold beN
  rw [ByteArray.data_append, Array.toList_append, List.take_append_of_le_length (by simpa using h)]
theorem numInts4 (n : Int) : numInts n 4 4 = [byteUp n 24, byteUp n 16, byteUp n 8, byteUp n 0] := by simp [numInts, List.range_succ]
theorem numInts8 (n : Int) : numInts n 8 8 = [byteUp n 56, byteUp n 48, byteUp n 40, byteUp n 32, byteUp n 24, byteUp n 16, byteUp n 8, byteUp n 0] := by simp [numInts, List.range_succ]
theorem be_num (n : Int) (B : Nat) (h0 : 0 ≤ n) (h : n < 2 ^ (8 * B)) : ∀ k, k ≤ B → (numInts n B k).foldl (fun a b => a * 256 + b) 0 = n / 2 ^ (8 * (B - k)) := by
  intro k
  induction k with
  | zero => intro _; simp only [numInts, List.range_zero, List.map_nil, List.foldl_nil, Nat.sub_zero]; rw [Int.ediv_eq_zero_of_lt h0 h]
  | succ k ih =>
    intro hk
    rw [numInts_succ, List.foldl_append, ih (by omega)]
    have e : 8 * (B - k) = 8 * (B - 1 - k) + 8 := by omega
    have e2 : B - (k + 1) = B - 1 - k := by omega
    rw [e, e2, Int.pow_add]
    show _ * 256 + byteUp n _ = _
    unfold byteUp
    rw [← Int.ediv_ediv_of_nonneg (by exact Int.le_of_lt (Int.pow_pos (by decide)))]
    generalize n / 2 ^ (8 * (B - 1 - k)) = m
    have : (2 : Int) ^ 8 = 256 := by decide
    rw [this]
    omega
theorem foldl_byte (l : List Int) (h : ∀ x ∈ l, ∃ y : Int, x = y % 256) : ∀ a : Int, (l.map fun n => UInt8.ofNat n.toNat).foldl (fun n b => n * 256 + ((b.toNat : Nat) : Int)) a = l.foldl (fun a b => a * 256 + b) a := by
  induction l with
  | nil => intro a; rfl
  | cons x l ih =>
    intro a
    obtain ⟨y, rfl⟩ := h _ (List.mem_cons_self ..)
    rw [List.map_cons, List.foldl_cons, List.foldl_cons, ih (fun x hx => h x (List.mem_cons_of_mem _ hx)), byte_of]
    have : (((y % 256).toNat : Nat) : Int) = y % 256 := by omega
    rw [this]
theorem beN_num (n : Int) (B : Nat) (h0 : 0 ≤ n) (h : n < 2 ^ (8 * B)) (y : ByteArray) : beN (numStr n B ++ y) B = n := by
  rw [beN_append _ _ _ (by rw [numStr_size]; exact Nat.le_refl _)]
  unfold beN
  rw [numStr_data, List.take_of_length_le (by simp [numInts_length]), foldl_byte _ (fun x hx => by
    simp only [numInts, List.mem_map] at hx
    obtain ⟨i, _, rfl⟩ := hx
    exact ⟨_, rfl⟩), be_num n B h0 h B (Nat.le_refl _)]
  simp
theorem beN_num4 (n : Int) (h0 : 0 ≤ n) (h : n < 4294967296) (y : ByteArray) : beN (numStr n 4 ++ y) 4 = n := beN_num n 4 h0 (by simpa using h) y
theorem beN_num8 (n : Int) (h0 : 0 ≤ n) (h : n < 18446744073709551616) (y : ByteArray) : beN (numStr n 8 ++ y) 8 = n := beN_num n 8 h0 (by simpa using h) y
theorem list4 {l : List UInt8} (h : l.length = 4) : ∃ a b c d, l = [a, b, c, d] := by
  match l, h with
  | [a, b, c, d], _ => exact ⟨a, b, c, d, rfl⟩
theorem list8 {l : List UInt8} (h : l.length = 8) : ∃ a b c d e f g i, l = [a, b, c, d, e, f, g, i] := by
  match l, h with
  | [a, b, c, d, e, f, g, i], _ => exact ⟨a, b, c, d, e, f, g, i, rfl⟩
theorem ba_ext {a b : ByteArray} (h : a.data.toList = b.data.toList) : a = b := ByteArray.ext (Array.toList_inj.1 h)
theorem num4_beN (s : ByteArray) (h : 4 ≤ s.size) : numStr (beN s 4) 4 = s.extract 0 4 := by
  apply ba_ext
  rw [numStr_data, numInts4]
  have hl : (s.data.toList.take 4).length = 4 := by rw [List.length_take]; simp; omega
  obtain ⟨a, b, c, d, e⟩ := list4 hl
  have hb : (s.extract 0 4).data.toList = s.data.toList.take 4 := by simp [ByteArray.data_extract]
  have ha := a.toNat_lt; have hb' := b.toNat_lt; have hc := c.toNat_lt; have hd := d.toNat_lt
  rw [hb, e]
  unfold beN
  rw [e]
  simp [byteUp]
  refine ⟨?_, ?_, ?_, ?_⟩ <;> (apply UInt8.toNat_inj.1; rw [UInt8.toNat_ofNat']; omega)
theorem num8_beN (s : ByteArray) (h : 8 ≤ s.size) : numStr (beN s 8) 8 = s.extract 0 8 := by
  apply ba_ext
  rw [numStr_data, numInts8]
  have hl : (s.data.toList.take 8).length = 8 := by rw [List.length_take]; simp; omega
  obtain ⟨a, b, c, d, e, f, g, i, he⟩ := list8 hl
  have hb : (s.extract 0 8).data.toList = s.data.toList.take 8 := by simp [ByteArray.data_extract]
  have ha := a.toNat_lt; have hb' := b.toNat_lt; have hc := c.toNat_lt; have hd := d.toNat_lt; have he' := e.toNat_lt; have hf := f.toNat_lt; have hg := g.toNat_lt; have hi := i.toNat_lt
  rw [hb, he]
  unfold beN
  rw [he]
  simp [byteUp]
  refine ⟨?_, ?_, ?_, ?_, ?_, ?_, ?_, ?_⟩ <;> (apply UInt8.toNat_inj.1; rw [UInt8.toNat_ofNat']; omega)
end Go.Proofs.YtbegjpmifcnieaaGreatDoor

/- Plain laws of Readers and Writers: each unit there and back. No program stands here. -/
namespace Go.Proofs.YtbegjpmifcnieaaGreatDoor
open Go.RowKit
set_option linter.unusedVariables false
set_option linter.unusedSimpArgs false

theorem isWordB_iff {n : Int} : isWordB n = true ↔ 0 ≤ n ∧ n ≤ 4294967295 := by simp [isWordB]
theorem U64_of {n : Int} (h0 : 0 ≤ n) (h : n < 18446744073709551616) : U64 n = n := u64_wrap_in n h0 h
def wordsStr : List Int → ByteArray
  | [] => ByteArray.empty
  | n :: l => numStr n 4 ++ wordsStr l
theorem wordsStr_size (l : List Int) : (wordsStr l).size = 4 * l.length := by
  induction l with
  | nil => rfl
  | cons n l ih => simp [wordsStr, numStr_size, ih]; omega
theorem wordsStr_append (l m : List Int) : wordsStr (l ++ m) = wordsStr l ++ wordsStr m := by
  induction l with
  | nil => simp [wordsStr]
  | cons n l ih => simp [wordsStr, ih, ByteArray.append_assoc]
theorem extract_all (y : ByteArray) : y.extract 0 y.size = y := by simp

-- ---- what is laid down
theorem w_lays {st : WSt} (s : ByteArray) (he : st.e = 0) (h : (st.out.size + s.size : Int) ≤ st.most) : st.lays s = { st with out := st.out ++ s } := by
  unfold WSt.lays; rw [if_pos he, if_neg (by omega)]
theorem w_uint {st : WSt} (n : Int) (he : st.e = 0) (hn : isWordB n = true) (h : (st.out.size + 4 : Int) ≤ st.most) : st.uint n = { st with out := st.out ++ numStr n 4 } := by
  unfold WSt.uint
  have := isWordB_iff.1 hn
  rw [if_pos hn, U64_of this.1 (by omega), w_lays _ he (by rw [numStr_size]; omega)]
theorem w_hyper {st : WSt} (n : Int) (he : st.e = 0) (h0 : 0 ≤ n) (hn : n < 18446744073709551616) (h : (st.out.size + 8 : Int) ≤ st.most) : st.hyper n = { st with out := st.out ++ numStr n 8 } := by
  unfold WSt.hyper
  rw [U64_of h0 hn, w_lays _ he (by rw [numStr_size]; omega)]
theorem w_count {st : WSt} (m n : Int) (he : st.e = 0) (hm : isWordB m = true) (h0 : 0 ≤ n) (hn : n ≤ m) (h : (st.out.size + 4 : Int) ≤ st.most) : st.count m n = { st with out := st.out ++ numStr n 4 } := by
  unfold WSt.count
  have := isWordB_iff.1 hm
  rw [if_pos ⟨hm, h0⟩, if_neg (by omega), w_uint n he (isWordB_iff.2 ⟨h0, by omega⟩) h]
theorem w_opq {st : WSt} (m : Int) (s : ByteArray) (he : st.e = 0) (hm : isWordB m = true) (hs : (s.size : Int) ≤ m) (h : (st.out.size + 4 + (padStr s).size : Int) ≤ st.most) :
    st.opq m s = { st with out := st.out ++ (numStr s.size 4 ++ padStr s) } := by
  unfold WSt.opq
  have := isWordB_iff.1 hm
  have hp := padStr_size s
  rw [if_pos hm, if_neg (by omega), U64_of (by omega) (by omega), w_lays _ he (by rw [ByteArray.size_append, numStr_size]; omega)]
-- ---- what is laid down is read
theorem r_peeked (n : Int) (K : Nat) (y : ByteArray) : (RSt.mk (numStr n K ++ y) 0).peeked K = ⟨numStr n K ++ y, 0⟩ := by
  unfold RSt.peeked
  rw [if_neg]
  rw [ByteArray.size_append, numStr_size]
  omega
theorem r_takes (n : Int) (K : Nat) (y : ByteArray) : (RSt.mk (numStr n K ++ y) 0).takes K = ⟨y, 0⟩ := by
  unfold RSt.takes RSt.drop
  rw [if_pos rfl]
  congr 1
  exact ByteArray.extract_append_eq_right (by rw [numStr_size]) (by rw [ByteArray.size_append])
theorem r_peekV (n : Int) (K : Nat) (y : ByteArray) (h0 : 0 ≤ n) (h : n < 2 ^ (8 * K)) : (RSt.mk (numStr n K ++ y) 0).peekV K = n := by
  unfold RSt.peekV RSt.peekOk
  rw [if_pos (by simp [ByteArray.size_append, numStr_size])]
  exact beN_num n K h0 h y
theorem r_uint (n : Int) (y : ByteArray) : (RSt.mk (numStr n 4 ++ y) 0).uint = ⟨y, 0⟩ := by
  unfold RSt.uint; rw [r_peeked, r_takes]
theorem r_uintV (n : Int) (y : ByteArray) (h : isWordB n = true) : (RSt.mk (numStr n 4 ++ y) 0).uintV = n :=
  r_peekV n 4 y (isWordB_iff.1 h).1 (by have := (isWordB_iff.1 h).2; simp; omega)
theorem r_hyper (n : Int) (y : ByteArray) : (RSt.mk (numStr n 8 ++ y) 0).hyper = ⟨y, 0⟩ := by
  unfold RSt.hyper; rw [r_peeked, r_takes]
theorem r_hyperV (n : Int) (y : ByteArray) (h0 : 0 ≤ n) (h : n ≤ 9223372036854775807) : (RSt.mk (numStr n 8 ++ y) 0).hyperV = n := by
  unfold RSt.hyperV
  rw [r_peekV n 8 y h0 (by simp; omega)]
  unfold wrap64
  omega
theorem r_many (m n : Int) (y : ByteArray) (hm : isWordB m = true) (h0 : 0 ≤ n) (hn : n ≤ m) : (RSt.mk (numStr n 4 ++ y) 0).manyS m = ⟨numStr n 4 ++ y, 0⟩ ∧ (RSt.mk (numStr n 4 ++ y) 0).manyV m = n := by
  have hb := isWordB_iff.1 hm
  have e : (RSt.mk (numStr n 4 ++ y) 0).manyS m = ⟨numStr n 4 ++ y, 0⟩ := by
    unfold RSt.manyS RSt.worded
    rw [if_pos hm, r_peekV n 4 y h0 (by simp; omega), if_neg (by omega), r_peeked]
  refine ⟨e, ?_⟩
  unfold RSt.manyV
  rw [e, if_pos rfl]
  unfold RSt.worded
  rw [if_pos hm, r_peekV n 4 y h0 (by simp; omega)]
theorem r_count (m n : Int) (y : ByteArray) (hm : isWordB m = true) (h0 : 0 ≤ n) (hn : n ≤ m) : (RSt.mk (numStr n 4 ++ y) 0).countS m = ⟨y, 0⟩ := by
  unfold RSt.countS; rw [(r_many m n y hm h0 hn).1, r_takes]
theorem zeros_pad (n : Nat) : zerosB (padBA n) = true := by
  unfold zerosB padBA
  simp only
  generalize padN n = k
  induction k with
  | zero => rfl
  | succ k ih => simp [Lib.repeatL] at ih ⊢; exact ih
theorem r_opq (m : Int) (s y : ByteArray) (hm : isWordB m = true) (hs : (s.size : Int) ≤ m) :
    (RSt.mk (numStr s.size 4 ++ (padStr s ++ y)) 0).opaqueS m = ⟨y, 0⟩ ∧ (RSt.mk (numStr s.size 4 ++ (padStr s ++ y)) 0).opaqueV m = s := by
  have hM := r_many m s.size (padStr s ++ y) hm (by omega) hs
  have hz : (numStr s.size 4 ++ (padStr s ++ y)).size = 4 + (s.size + (padN s.size + y.size)) := by rw [ByteArray.size_append, ByteArray.size_append, numStr_size, padStr_size]; omega
  have hn : ((s.size : Int)).toNat = s.size := by omega
  have h4 : ∀ i j, (numStr s.size 4 ++ (padStr s ++ y)).extract (4 + i) (4 + j) = (s ++ (padBA s.size ++ y)).extract i j := fun i j => by
    rw [ByteArray.extract_append_size_add' (by rw [numStr_size])]; unfold padStr; rw [ByteArray.append_assoc]
  have hp : RSt.padPart ⟨numStr s.size 4 ++ (padStr s ++ y), 0⟩ 4 s.size = padBA s.size := by
    unfold RSt.padPart
    simp only
    rw [Nat.add_assoc 4, h4]
    have := @ByteArray.extract_append_size_add s (padBA s.size ++ y) 0 (padN s.size)
    rw [Nat.add_zero] at this
    rw [this]
    exact ByteArray.extract_append_eq_left (padBA_size _).symm
  unfold RSt.opaqueS RSt.opaqueV
  rw [hM.1, hM.2, hn]
  constructor
  · unfold RSt.textS RSt.drop
    rw [if_pos rfl, if_neg (by simp only; omega), hp, if_pos (zeros_pad _)]
    congr 1
    simp only
    have e : (numStr (s.size : Int) 4 ++ (padStr s ++ y)).extract (4 + s.size + padN s.size) (4 + (s.size + (padN s.size + y.size))) = y := by
      rw [Nat.add_assoc 4, h4, ByteArray.extract_append_size_add]
      exact ByteArray.extract_append_eq_right (padBA_size _).symm (by rw [padBA_size])
    rw [hz, e]
  · unfold RSt.textV
    rw [if_pos ⟨rfl, by simp only; omega, by rw [hp]; exact zeros_pad _⟩]
    have := h4 0 s.size
    rw [Nat.add_zero] at this
    simp only
    rw [this]
    exact ByteArray.extract_append_eq_left rfl
theorem takes_e (st : RSt) (n : Nat) : (st.takes n).e = st.e := by unfold RSt.takes RSt.drop; split <;> rfl
theorem b_peeked {st : RSt} {k : Nat} (h : (st.peeked k).e = 0) : st.e = 0 ∧ k ≤ st.rest.size ∧ st.peeked k = st ∧ st.peekV k = beN st.rest k := by
  have h1 := (peeked_ok h).1
  have h2 : k ≤ st.rest.size := by
    have := (peeked_ok h).2
    unfold RSt.peeked at this
    split at this
    · rw [fail_rest] at this; exact this
    · exact this
  refine ⟨h1, h2, ?_, ?_⟩
  · unfold RSt.peeked; rw [if_neg (by omega)]
  · unfold RSt.peekV RSt.peekOk; rw [if_pos (by simp [h1, h2])]
theorem cut_front (s : ByteArray) (k : Nat) (h : k ≤ s.size) : s.extract 0 k ++ s.extract k s.size = s := by
  rw [ByteArray.extract_append_extract, Nat.zero_min, Nat.max_eq_right h]; simp
theorem b_uint {st : RSt} (h : st.uint.e = 0) : st.e = 0 ∧ isWordB st.uintV = true ∧ st.rest = numStr st.uintV 4 ++ st.uint.rest := by
  unfold RSt.uint at h ⊢
  rw [takes_e] at h
  obtain ⟨h1, h2, h3, h4⟩ := b_peeked h
  have hb := peekV_bound st 4
  refine ⟨h1, isWordB_iff.2 ⟨hb.1, by have := hb.2; unfold RSt.uintV; omega⟩, ?_⟩
  unfold RSt.uintV
  rw [h3, h4, num4_beN _ h2]
  unfold RSt.takes RSt.drop
  rw [if_pos h1]
  exact (cut_front _ _ h2).symm
theorem b_hyper {st : RSt} (h : st.hyper.e = 0) : st.e = 0 ∧ st.rest = numStr (U64 st.hyperV) 8 ++ st.hyper.rest := by
  unfold RSt.hyper at h ⊢
  rw [takes_e] at h
  obtain ⟨h1, h2, h3, h4⟩ := b_peeked h
  have hb := peekV_bound st 8
  refine ⟨h1, ?_⟩
  have hu : U64 st.hyperV = st.peekV 8 := by
    unfold RSt.hyperV U64
    have h256 : st.peekV 8 < 18446744073709551616 := by have := hb.2; omega
    have := hb.1
    generalize st.peekV 8 = z at *
    unfold wrap64
    simp only [IntKind.wrap, IntKind.bits, IntKind.signed]
    simp
    omega
  rw [hu, h3, h4, num8_beN _ h2]
  unfold RSt.takes RSt.drop
  rw [if_pos h1]
  exact (cut_front _ _ h2).symm
theorem b_many {st : RSt} {m : Int} (h : (st.manyS m).e = 0) : isWordB m = true ∧ st.e = 0 ∧ 4 ≤ st.rest.size ∧ st.manyS m = st ∧ st.manyV m = beN st.rest 4 ∧ st.manyV m ≤ m := by
  have hV : st.manyV m = (st.worded m).peekV 4 := by unfold RSt.manyV; rw [if_pos h]
  unfold RSt.manyS at h ⊢
  split at h
  · exact absurd h (fail_e (by decide))
  · rename_i hc
    rw [if_neg hc, hV]
    obtain ⟨h1, h2, h3, h4⟩ := b_peeked h
    by_cases hm : isWordB m = true
    · have hw : st.worded m = st := by unfold RSt.worded; rw [if_pos hm]
      rw [hw] at h1 h2 h3 h4 hc ⊢
      exact ⟨hm, h1, h2, h3, h4, by omega⟩
    · have hw : st.worded m = st.fail 22 := by unfold RSt.worded; rw [if_neg hm]
      rw [hw] at h1
      exact absurd h1 (fail_e (by decide))
theorem b_count {st : RSt} {m : Int} (h : (st.countS m).e = 0) : isWordB m = true ∧ st.e = 0 ∧ 0 ≤ st.manyV m ∧ st.manyV m ≤ m ∧ st.rest = numStr (st.manyV m) 4 ++ (st.countS m).rest := by
  unfold RSt.countS at h ⊢
  rw [takes_e] at h
  obtain ⟨h0, h1, h2, h3, h4, h5⟩ := b_many h
  refine ⟨h0, h1, (manyV_bound st m).1, h5, ?_⟩
  rw [h3, h4, num4_beN _ h2]
  unfold RSt.takes RSt.drop
  rw [if_pos h1]
  exact (cut_front _ _ h2).symm
theorem zeros_eq (s : ByteArray) (n : Nat) (h : zerosB s = true) (hs : s.size = padN n) : s = padBA n := by
  apply ba_ext
  unfold padBA
  simp only
  unfold zerosB at h
  have hs' : s.data.toList.length = padN n := by simpa using hs
  generalize s.data.toList = l at *
  generalize padN n = k at *
  clear hs
  induction k generalizing l with
  | zero => simp at hs'; subst hs'; rfl
  | succ k ih =>
    match l, hs' with
    | a :: l, hs' =>
      simp at h hs'
      obtain ⟨rfl, h⟩ := h
      have := ih l (by simpa using h) hs'
      simp [Lib.repeatL] at this ⊢
      exact this
theorem b_opq {st : RSt} {m : Int} (h : (st.opaqueS m).e = 0) :
    isWordB m = true ∧ st.e = 0 ∧ ((st.opaqueV m).size : Int) ≤ m ∧ st.rest = numStr (st.opaqueV m).size 4 ++ (padStr (st.opaqueV m) ++ (st.opaqueS m).rest) := by
  have hM : (st.manyS m).e = 0 := by
    unfold RSt.opaqueS RSt.textS at h
    by_cases hc : (st.manyS m).e = 0
    · exact hc
    · rw [if_neg hc] at h; exact h
  obtain ⟨h0, h1, h2, h3, h4, h5⟩ := b_many hM
  have h6 := (manyV_bound st m).1
  unfold RSt.opaqueS at h ⊢
  unfold RSt.opaqueV
  rw [h3] at h ⊢
  have hn : ((st.manyV m).toNat : Int) = st.manyV m := by omega
  generalize hN : (st.manyV m).toNat = n at h hn ⊢
  unfold RSt.textS at h
  rw [if_pos h1] at h
  by_cases hs : st.rest.size < 4 + n + padN n
  · rw [if_pos hs] at h; exact absurd h (fail_e (by decide))
  rw [if_neg hs] at h
  by_cases hz : zerosB (st.padPart 4 n) = true
  case neg => rw [if_neg hz] at h; exact absurd h (fail_e (by decide))
  have hV : st.textV 4 n = st.rest.extract 4 (4 + n) := by unfold RSt.textV; rw [if_pos ⟨h1, by omega, hz⟩]
  have hS : (st.textS 4 n).rest = st.rest.extract (4 + n + padN n) st.rest.size := by unfold RSt.textS RSt.drop; rw [if_pos h1, if_neg hs, if_pos hz]
  have hVs : (st.textV 4 n).size = n := by rw [hV, ByteArray.size_extract]; omega
  have hP : st.padPart 4 n = padBA n := zeros_eq _ n hz (by unfold RSt.padPart; rw [ByteArray.size_extract]; omega)
  refine ⟨h0, h1, by rw [hVs]; omega, ?_⟩
  unfold padStr
  rw [hVs, hn, h4, num4_beN _ h2, hV, hS, ← hP]
  unfold RSt.padPart
  rw [ByteArray.append_assoc, ByteArray.extract_append_extract]
  have e1 : min (4 + n) (4 + n + padN n) = 4 + n := by omega
  have e2 : max (4 + n + padN n) st.rest.size = st.rest.size := by omega
  rw [e1, e2, ByteArray.extract_append_extract]
  have e3 : min 4 (4 + n) = 4 := by omega
  have e4 : max (4 + n) st.rest.size = st.rest.size := by omega
  rw [e3, e4]
  exact (cut_front _ _ h2).symm
end Go.Proofs.YtbegjpmifcnieaaGreatDoor
