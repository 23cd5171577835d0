/- The Writer of package xdr: texts with their padding. -/
import Derived.Test.YtbegjpmifcnieaaGreatDoorXt
import Derived.Test.YtbegjpmifcnieaaGreatDoorShelf
import Derived.RegionCalls
import Derived.Deep.RegionWith
namespace Go.Proofs.YtbegjpmifcnieaaGreatDoor
open Go.RowKit
set_option linter.unusedVariables false
set_option linter.unusedSimpArgs false

def padBA (n : Nat) : ByteArray := ⟨(Lib.repeatL [0] (padN n)).toArray⟩
def padStr (s : ByteArray) : ByteArray := s ++ padBA s.size
theorem padN_lt (n : Nat) : padN n ≤ 3 := by unfold padN; omega
theorem repeat_length (l : List UInt8) (n : Nat) : (Lib.repeatL l n).length = l.length * n := by
  induction n with
  | zero => simp [Lib.repeatL]
  | succ n ih => simp [Lib.repeatL, ih, Nat.mul_add]; try omega
theorem padBA_size (n : Nat) : (padBA n).size = padN n := by
  show (Lib.repeatL [0] (padN n)).toArray.size = _
  simp [repeat_length]
theorem padStr_size (s : ByteArray) : (padStr s).size = s.size + padN s.size := by simp [padStr, ByteArray.size_append, padBA_size]

set_option maxRecDepth 100000 in
theorem padded_any (s : ByteArray) (w : World) (hs : s.size ≤ 140737488355300) : Calls Tryz.prog 248 #[.string s] w fun r w' => r = .returned (.string (padStr s)) ∧ Below w.heap.size w w' := by
  have h0 : s.size ≤ 140737488355328 := by omega
  have hp := padN_lt s.size
  have hl : (Lib.repeatL [0] (padN s.size)).length ≤ 3 := by rw [repeat_length]; simpa using hp
  have H1 := Lib.hid hs
  clear hs
  go_enter Tryz.func248, Tryz.ntmps248
  go_wp2_with (first | (go_at_call 268; refine (padding_any _ _ h0).mono ?_; rintro e w' ⟨rfl, rfl⟩) | (go_at_call 267; refine (Tryz.strings_Repeat ⟨#[0]⟩ (padN s.size) _ (by omega) (by show 1 * _ ≤ _; omega)).mono ?_; rintro e w1 ⟨rfl, hb⟩))
  go_ret
  exact ⟨rfl, hb⟩


def WSt.opq (st : WSt) (most : Int) (s : ByteArray) : WSt :=
  if isWordB most = true then (if most < s.size ∨ st.most < s.size then st.fail 23 else st.lays (numStr (U64 s.size) 4 ++ padStr s)) else st.fail 22

/-- a Writer of room 4 that a word was laid into. -/
theorem new_uint (n : Int) (h : isWordB n = true) : (WSt.uint ⟨ByteArray.empty, 4, 0⟩ n) = ⟨numStr (U64 n) 4, 4, 0⟩ := by
  simp [WSt.uint, h, WSt.lays, numStr_size]

set_option maxRecDepth 100000 in
set_option maxHeartbeats 2000000 in
theorem WOpaque_any {F : Nat → Prop} {b : Nat} {st : WSt} (most : Int) (s : ByteArray) (w : World) (h : Wr w F b st) (hs : st.out.size + s.size + 8 ≤ 140737488355300 ∨ (st.out.size ≤ 1099511627776 ∧ st.most ≤ 1099511627776 ∧ s.size ≤ 140737488355300)) :
    Calls Tryz.prog 214 #[.pointer (some ⟨b, 0, none⟩), .int .i64 most, .string s] w fun r w' => r = .returned (.tuple #[]) ∧ Fr F w w' ∧ Wr w' (Gw F w w') b (st.opq most s) := by
  have Hs := Lib.hid hs
  have hsz : s.size ≤ 140737488355300 := by omega
  have hmx := h.most
  obtain ⟨v, hb, ho, hg⟩ := h.row
  have c1 := cellOf hb 1
  simp at c1
  clear hs hb ho hg
  by_cases hi : isWordB most = true
  · by_cases hm : most < s.size
    · have e : st.opq most s = st.fail 23 := by simp [WSt.opq, hi, hm]
      rw [e]
      clear e
      go_enter Tryz.func214, Tryz.ntmps214
      go_wp2_with (first | (go_at_call 247; refine (isWord_any _ _).mono ?_; rintro e w' ⟨rfl, rfl⟩) | (go_at_call 218; refine (Wfail_any _ _ h).mono ?_; rintro e w1 ⟨rfl, hfr1, hs1, hw1⟩))
      go_end0
      exact ⟨rfl, hfr1, hw1.gw⟩
    · by_cases hm2 : st.most < s.size
      · have e : st.opq most s = st.fail 23 := by simp [WSt.opq, hi, hm2]
        rw [e]
        clear e
        go_enter Tryz.func214, Tryz.ntmps214
        go_wp2_with (first | (go_at_call 247; refine (isWord_any _ _).mono ?_; rintro e w' ⟨rfl, rfl⟩) | (go_at_call 218; refine (Wfail_any _ _ h).mono ?_; rintro e w1 ⟨rfl, hfr1, hs1, hw1⟩))
        go_end0
        exact ⟨rfl, hfr1, hw1.gw⟩
      · have e : st.opq most s = st.lays (numStr (U64 s.size) 4 ++ padStr s) := by simp [WSt.opq, hi, hm, hm2]
        rw [e]
        clear e
        have hw4 : isWordB (s.size : Int) = true := by
          refine isWordB_of ⟨by omega, ?_⟩
          simp [isWordB] at hi
          omega
        have Hw4 := Lib.hid hw4
        have e4 : max (4 : Int) 0 = 4 := by decide
        have HL : Hid (st.out.size + (numStr (U64 s.size) 4 ++ padStr s).size ≤ 140737488355328) := Lib.hid (by
          have := padN_lt s.size; have := Hs.out; rw [ByteArray.size_append, numStr_size, padStr_size]; omega)
        have b4 : (numStr (U64 s.size) 4).size ≤ 4 := Nat.le_of_eq (numStr_size _ _)
        have bp : (padStr s).size ≤ 140737488355310 := by have := padN_lt s.size; rw [padStr_size]; omega
        clear hw4
        go_enter Tryz.func214, Tryz.ntmps214
        go_wp2_with (first | (go_at_call 247; refine (isWord_any _ _).mono ?_; rintro e w' ⟨rfl, rfl⟩) | (go_at_call 144; refine (WNew_any _ _ (by decide)).mono ?_; rintro e w1 ⟨rfl, hfr1, hw1⟩))
        rw [e4] at hw1
        refine (WUint_any _ _ hw1 (by decide)).mono ?_
        rintro e w2 ⟨rfl, hfr2, hw2⟩
        rw [new_uint _ Hw4.out] at hw2
        obtain ⟨v2, hb2, ho2, hg2⟩ := hw2.row
        obtain ⟨A, c, rfl⟩ := owns_slice ho2
        have k0 := cellOf hb2 0
        simp at k0
        have cv := run_ownStr (P := Tryz.prog) (w := w2) 284 9 Tryz.underlying284 Tryz.underlying5 Tryz.underlying9 ho2
        have cvd := run_ownStr (P := Tryz.prog) (w := w2.drew) 284 9 Tryz.underlying284 Tryz.underlying5 Tryz.underlying9 (ownsRow_heap rfl ho2)
        have HB := Lib.hid hb2
        have hlt2 := hw2.low _ hw2.self
        have HO := Lib.hid ho2
        clear hb2 ho2 hg2
        have hF12 : Fr (fun _ => False) w w2 := hfr1.then hfr2 (fun k hk h => by omega)
        have hW2 := h.fr hF12 (fun _ _ h => h)
        go_wp2_with fail
        go_region_with (first | (go_at_call 248; refine (padded_any _ _ (by omega)).mono ?_; rintro e w3 ⟨rfl, hb3⟩; have hb3 : Below w2.heap.size w2 w3 := below_ofDrew hb3; have k3 := (hb3.cell (p := ⟨w.heap.size, 0, none⟩) hlt2).trans k0; have cv3 := run_ownStr (P := Tryz.prog) (w := w3) 284 9 Tryz.underlying284 Tryz.underlying5 Tryz.underlying9 (ownsRow_below hb3 HO.out); have hW3 := hW2.below hb3) | (go_at_call 219; refine (Wlays_any _ _ hW3 (.inl HL.out)).mono ?_; rintro e w4 ⟨rfl, hfr4, hw4⟩))
        all_goals
          go_end0
          exact ⟨rfl, (hF12.mono (fun _ _ h => h.elim)).trans ((Fr.ofBelow hb3).trans hfr4), hw4.late (Nat.le_trans hF12.size hb3.size) h.low hfr4.size⟩
  · have e : st.opq most s = st.fail 22 := by simp [WSt.opq, hi]
    rw [e]
    clear e
    rw [Bool.not_eq_true] at hi
    go_enter Tryz.func214, Tryz.ntmps214
    go_wp2_with (first | (go_at_call 247; refine (isWord_any _ _).mono ?_; rintro e w' ⟨rfl, rfl⟩) | (go_at_call 218; refine (Wfail_any _ _ h).mono ?_; rintro e w1 ⟨rfl, hfr1, hs1, hw1⟩))
    go_end0
    exact ⟨rfl, hfr1, hw1.gw⟩

end Go.Proofs.YtbegjpmifcnieaaGreatDoor
