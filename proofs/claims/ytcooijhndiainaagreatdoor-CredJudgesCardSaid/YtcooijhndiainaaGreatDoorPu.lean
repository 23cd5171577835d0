/- Plain laws of the notation of numbers and texts: what is laid down is read as it was; what is read is laid down as it was. No program stands here. -/
import Derived.Test.YtcooijhndiainaaGreatDoorJd
namespace Go.Proofs.YtcooijhndiainaaGreatDoor
open Go.RowKit

theorem push_list (l : List Int) : ∀ r : ByteArray, l.foldl (fun r n => r.push (UInt8.ofNat n.toNat)) r = r ++ ⟨(l.map fun n => UInt8.ofNat n.toNat).toArray⟩ := by
  induction l with
  | nil => intro r; apply ByteArray.ext; simp
  | cons a l ih =>
    intro r
    rw [List.foldl_cons, ih]
    apply ByteArray.ext
    simp [ByteArray.data_append, ByteArray.push]
theorem numStr_data (n : Int) (B : Nat) : (numStr n B).data.toList = (numInts n B B).map fun n => UInt8.ofNat n.toNat := by
  unfold numStr; rw [push_list]; simp [ByteArray.data_append]
theorem byte_of (n : Int) : (UInt8.ofNat (n % 256).toNat).toNat = (n % 256).toNat := by
  rw [UInt8.toNat_ofNat']; omega
theorem beN_append (a b : ByteArray) (k : Nat) (h : k ≤ a.size) : beN (a ++ b) k = beN a k := by
  unfold beN
  rw [ByteArray.data_append, Array.toList_append, List.take_append_of_le_length (by simpa using h)]
theorem numInts4 (n : Int) : numInts n 4 4 = [byteUp n 24, byteUp n 16, byteUp n 8, byteUp n 0] := by simp [numInts, List.range_succ]
theorem numInts8 (n : Int) : numInts n 8 8 = [byteUp n 56, byteUp n 48, byteUp n 40, byteUp n 32, byteUp n 24, byteUp n 16, byteUp n 8, byteUp n 0] := by simp [numInts, List.range_succ]
theorem be_num (n : Int) (B : Nat) (h0 : 0 ≤ n) (h : n < 2 ^ (8 * B)) : ∀ k, k ≤ B → (numInts n B k).foldl (fun a b => a * 256 + b) 0 = n / 2 ^ (8 * (B - k)) := by
  intro k
  induction k with
  | zero => intro _; simp only [numInts, List.range_zero, List.map_nil, List.foldl_nil, Nat.sub_zero]; rw [Int.ediv_eq_zero_of_lt h0 h]
  | succ k ih =>
    intro hk
    rw [numInts_succ, List.foldl_append, ih (by omega)]
    have e : 8 * (B - k) = 8 * (B - 1 - k) + 8 := by omega
    have e2 : B - (k + 1) = B - 1 - k := by omega
    rw [e, e2, Int.pow_add]
    show _ * 256 + byteUp n _ = _
    unfold byteUp
    rw [← Int.ediv_ediv_of_nonneg (by exact Int.le_of_lt (Int.pow_pos (by decide)))]
    generalize n / 2 ^ (8 * (B - 1 - k)) = m
    have : (2 : Int) ^ 8 = 256 := by decide
    rw [this]
    omega
theorem foldl_byte (l : List Int) (h : ∀ x ∈ l, ∃ y : Int, x = y % 256) : ∀ a : Int, (l.map fun n => UInt8.ofNat n.toNat).foldl (fun n b => n * 256 + ((b.toNat : Nat) : Int)) a = l.foldl (fun a b => a * 256 + b) a := by
  induction l with
  | nil => intro a; rfl
  | cons x l ih =>
    intro a
    obtain ⟨y, rfl⟩ := h _ (List.mem_cons_self ..)
    rw [List.map_cons, List.foldl_cons, List.foldl_cons, ih (fun x hx => h x (List.mem_cons_of_mem _ hx)), byte_of]
    have : (((y % 256).toNat : Nat) : Int) = y % 256 := by omega
    rw [this]
theorem beN_num (n : Int) (B : Nat) (h0 : 0 ≤ n) (h : n < 2 ^ (8 * B)) (y : ByteArray) : beN (numStr n B ++ y) B = n := by
  rw [beN_append _ _ _ (by rw [numStr_size]; exact Nat.le_refl _)]
  unfold beN
  rw [numStr_data, List.take_of_length_le (by simp [numInts_length]), foldl_byte _ (fun x hx => by
    simp only [numInts, List.mem_map] at hx
    obtain ⟨i, _, rfl⟩ := hx
    exact ⟨_, rfl⟩), be_num n B h0 h B (Nat.le_refl _)]
  simp
theorem beN_num4 (n : Int) (h0 : 0 ≤ n) (h : n < 4294967296) (y : ByteArray) : beN (numStr n 4 ++ y) 4 = n := beN_num n 4 h0 (by simpa using h) y
theorem beN_num8 (n : Int) (h0 : 0 ≤ n) (h : n < 18446744073709551616) (y : ByteArray) : beN (numStr n 8 ++ y) 8 = n := beN_num n 8 h0 (by simpa using h) y
theorem list4 {l : List UInt8} (h : l.length = 4) : ∃ a b c d, l = [a, b, c, d] := by
  match l, h with
  | [a, b, c, d], _ => exact ⟨a, b, c, d, rfl⟩
theorem list8 {l : List UInt8} (h : l.length = 8) : ∃ a b c d e f g i, l = [a, b, c, d, e, f, g, i] := by
  match l, h with
  | [a, b, c, d, e, f, g, i], _ => exact ⟨a, b, c, d, e, f, g, i, rfl⟩
theorem ba_ext {a b : ByteArray} (h : a.data.toList = b.data.toList) : a = b := ByteArray.ext (Array.toList_inj.1 h)
theorem num4_beN (s : ByteArray) (h : 4 ≤ s.size) : numStr (beN s 4) 4 = s.extract 0 4 := by
  apply ba_ext
  rw [numStr_data, numInts4]
  have hl : (s.data.toList.take 4).length = 4 := by rw [List.length_take]; simp; omega
  obtain ⟨a, b, c, d, e⟩ := list4 hl
  have hb : (s.extract 0 4).data.toList = s.data.toList.take 4 := by simp [ByteArray.data_extract]
  have ha := a.toNat_lt; have hb' := b.toNat_lt; have hc := c.toNat_lt; have hd := d.toNat_lt
  rw [hb, e]
  unfold beN
  rw [e]
  simp [byteUp]
  refine ⟨?_, ?_, ?_, ?_⟩ <;> (apply UInt8.toNat_inj.1; rw [UInt8.toNat_ofNat']; omega)
theorem num8_beN (s : ByteArray) (h : 8 ≤ s.size) : numStr (beN s 8) 8 = s.extract 0 8 := by
  apply ba_ext
  rw [numStr_data, numInts8]
  have hl : (s.data.toList.take 8).length = 8 := by rw [List.length_take]; simp; omega
  obtain ⟨a, b, c, d, e, f, g, i, he⟩ := list8 hl
  have hb : (s.extract 0 8).data.toList = s.data.toList.take 8 := by simp [ByteArray.data_extract]
  have ha := a.toNat_lt; have hb' := b.toNat_lt; have hc := c.toNat_lt; have hd := d.toNat_lt; have he' := e.toNat_lt; have hf := f.toNat_lt; have hg := g.toNat_lt; have hi := i.toNat_lt
  rw [hb, he]
  unfold beN
  rw [he]
  simp [byteUp]
  refine ⟨?_, ?_, ?_, ?_, ?_, ?_, ?_, ?_⟩ <;> (apply UInt8.toNat_inj.1; rw [UInt8.toNat_ofNat']; omega)
end Go.Proofs.YtcooijhndiainaaGreatDoor
