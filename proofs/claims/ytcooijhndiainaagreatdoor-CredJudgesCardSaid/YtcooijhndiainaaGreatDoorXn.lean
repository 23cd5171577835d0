/- The Writer of package xdr: a number's low bytes, the highest first. -/
import Derived.Test.YtcooijhndiainaaGreatDoorXw
import Derived.Maps.AppendAt
namespace Go.Proofs.YtcooijhndiainaaGreatDoor
open Go.RowKit

/-- the byte of a number that stands so many bits up. -/
def byteUp (n : Int) (sh : Nat) : Int := n / 2 ^ sh % 256
/-- the first k of B bytes of a number. -/
def numInts (n : Int) (B k : Nat) : List Int := (List.range k).map fun i : Nat => byteUp n (8 * (B - 1 - i))
def numStr (n : Int) (B : Nat) : ByteArray := (numInts n B B).foldl (fun r n => r.push (UInt8.ofNat n.toNat)) ByteArray.empty

theorem numInts_succ (n : Int) (B k : Nat) : numInts n B (k + 1) = numInts n B k ++ [byteUp n (8 * (B - 1 - k))] := by
  simp [numInts, List.range_succ]
theorem numInts_length (n : Int) (B k : Nat) : (numInts n B k).length = k := by simp [numInts]
theorem push_size (l : List Int) : ∀ r : ByteArray, (l.foldl (fun r n => r.push (UInt8.ofNat n.toNat)) r).size = r.size + l.length := by
  induction l with
  | nil => simp
  | cons a l ih => intro r; simp [ih, ByteArray.size_push]; omega
theorem numStr_size (n : Int) (B : Nat) : (numStr n B).size = B := by unfold numStr; rw [push_size, numInts_length]; simp

/-- a slice of bytes that is owned, as a string. -/
theorem run_ownBytes {P : Program} {w : World} {base e : Nat} {v : Value} {ns : List Int} (src dst : TypeId) (hs : P.underlying src = some (.slice e)) (he : P.underlying e = some (.int .u8)) (hd : P.underlying dst = some .string)
    (h : w.ownsRow base e 1 v ns.length (ns.map (Value.int .u8))) :
    (convert src dst v).run P w = .ok (.string (ns.foldl (fun r n => r.push (UInt8.ofNat n.toNat)) ByteArray.empty)) w := by
  rcases h.2 with ⟨rfl, h0⟩ | ⟨g, cap, cur, rfl, _⟩
  · have : ns = [] := List.eq_nil_of_length_eq_zero h0
    subst this
    rw [run_convert_bytes_string w src dst e none 0 0 hs he hd]
    simp [Conv.bytesToString]
  · rw [run_convert_bytes_string w src dst e _ _ _ hs he hd]
    refine run_bytesToString w _ _ _ ns ?_
    have := run_loadCells_list (P := P) (w := w) ⟨g, 0, none⟩ (ns.map (Value.int .u8)) (h.cells (g := g) rfl)
    rwa [List.length_map] at this

theorem foldl_bytes (l : List UInt8) : ∀ r : ByteArray, (l.map fun b => ((b.toNat : Nat) : Int)).foldl (fun r n => r.push (UInt8.ofNat n.toNat)) r = r ++ ⟨l.toArray⟩ := by
  induction l with
  | nil => intro r; apply ByteArray.ext; simp
  | cons a l ih =>
    intro r
    rw [List.map_cons, List.foldl_cons, ih]
    apply ByteArray.ext
    apply Array.ext'
    simp
theorem run_ownStr {P : Program} {w : World} {base e : Nat} {v : Value} {s : ByteArray} (src dst : TypeId) (hs : P.underlying src = some (.slice e)) (he : P.underlying e = some (.int .u8)) (hd : P.underlying dst = some .string)
    (h : w.ownsRow base e 1 v s.size (Lib.strCells s)) : (convert src dst v).run P w = .ok (.string s) w := by
  have h1 := run_ownBytes (P := P) (ns := s.data.toList.map fun b => ((b.toNat : Nat) : Int)) src dst hs he hd (by
    have e1 : (s.data.toList.map fun b => ((b.toNat : Nat) : Int)).length = s.size := by simp
    rw [e1, List.map_map]; exact h)
  rw [h1, foldl_bytes]
  simp

set_option maxRecDepth 100000 in
set_option maxHeartbeats 1000000 in
/-- (*Writer).number -/
theorem Wnumber_any {F : Nat → Prop} {b : Nat} {st : WSt} (n : Int) (B : Nat) (w : World) (h : Wr w F b st) (hs : st.out.size + B ≤ 140737488355328) (hB : 1 ≤ B ∧ B ≤ 8) (hn : 0 ≤ n) :
    Calls Tryz.prog 94 #[.pointer (some ⟨b, 0, none⟩), .int .u64 n, .int .i64 B] w fun r w' => r = .returned (.tuple #[]) ∧ Fr F w w' ∧ Wr w' (Gw F w w') b (st.lays (numStr n B)) := by
  obtain ⟨i0, hi, hz0, hz1, hz2⟩ := info_parts Tryz.infoU8
  obtain ⟨hB1, hB8⟩ := hB
  have Hs := Lib.hid hs
  clear hs
  go_enter Tryz.func94, Tryz.ntmps94
  go_wp2
  go_loopw [6, 7] (fun v i wr => ∃ k : Nat, k ≤ B ∧ i = .int .i64 (8 * ((B : Int) - 1 - k)) ∧ wr.ownsRow w.heap.size 5 1 v k ((numInts n B k).map (Value.int .u8)) ∧ Below w.heap.size w wr) (fun _ i _ => (intOf i + 8).toNat)
  case atStart => exact ⟨0, Nat.zero_le _, by simp, World.ownsRow_nil _ _ _ _, Below.refl _ _⟩
  case round =>
    obtain ⟨k, hk, rfl, hown, hbel⟩ := hrel
    by_cases hlt : k < B
    · have hge : (0 : Int) ≤ 8 * ((B : Int) - 1 - k) := by omega
      have Ho := Lib.hid hown
      have Hb := Lib.hid hbel
      clear hown hbel
      go_wp2_with (at_builtin; refine wpList_append_own_at _ rfl _ _ 76 rfl w.heap.size 5 i0 (.int .u8 0) 1 1 Tryz.underlying76 hi hz0 hz1 hz2 rfl (by decide) _ _ _ rfl (Ho.out.alloc _) ⟨wr.heap.size, 0, none⟩ 1 1 [.int .u8 (byteUp n (8 * (B - 1 - k)))] rfl rfl ?c1 ?c2 ?c3 ?c4 ?c5 ?_)
      case c1 => intro j u hj; match j, hj with | 0, hj => simp at hj; subst hj; simp [Addr.add, byteUp]
      case c2 => intro u hu; simp at hu; subst hu; rfl
      case c3 => unfold maxLen; omega
      case c4 => omega
      case c5 => have := Hb.out.size; simp; omega
      intro v' w' hown' hgrow _ _
      have hbel' : Below w.heap.size w w' := (Hb.out.alloc (by have := Hb.out.size; omega) _).grown hgrow (by have := Hb.out.size; simp; omega) (fun k e => (Ho.out.lt k e).1)
      have Ho' := Lib.hid hown'
      have Hb' := Lib.hid hbel'
      clear hown' hgrow hbel'
      go_wp2
      go_roundw
      case rel => exact ⟨k + 1, by omega, by go_num, by rw [numInts_succ, List.map_append]; exact Ho'.out, Hb'.out⟩
      case measure => simp [intOf]; omega
    · obtain rfl : B = k := by omega
      have hlt2 : ¬ ((0 : Int) ≤ 8 * ((B : Int) - 1 - B)) := by omega
      have hcv := run_ownBytes (P := Tryz.prog) (w := wr) (v := u6) (ns := numInts n B B) 76 9 Tryz.underlying76 Tryz.underlying5 Tryz.underlying9 (by rw [numInts_length]; exact hown)
      have Ho := Lib.hid hown
      have Hb := Lib.hid hbel
      clear hown hbel hlt
      have hw : Wr wr F b st := h.below Hb.out
      have hsz : st.out.size + (numStr n B).size ≤ 140737488355328 := by rw [numStr_size]; exact Hs.out
      have HS := Lib.hid hsz
      clear hsz
      go_wp2_with (go_at_call 109; refine (Wlays_any _ _ hw HS.out).mono ?_; rintro e w' ⟨rfl, hfr, hw'⟩)
      go_end0
      exact ⟨rfl, (Fr.ofBelow Hb.out).trans hfr, hw'.late Hb.out.size h.low hfr.size⟩

end Go.Proofs.YtcooijhndiainaaGreatDoor
