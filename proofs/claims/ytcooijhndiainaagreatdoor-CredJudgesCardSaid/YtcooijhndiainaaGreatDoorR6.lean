/- The document's Reader (callboxref02): texts with their padding. -/
import Derived.Test.YtcooijhndiainaaGreatDoorR5
import Derived.IntWalk
namespace Go.Proofs.YtcooijhndiainaaGreatDoor
open Go.RowKit

theorem Fr.ofDrewR {S : Nat → Prop} {a w : World} (h : Fr S a.drew w) : Fr S a w := ⟨h.os, h.tape, h.output, h.size, h.block⟩
theorem zeros_pad_eq {s : ByteArray} {n : Nat} (hs : s.size = padN n) : (s.toList == (padBA n).toList) = zerosB s := by
  have hl : (padBA n).data.toList = List.replicate (padN n) 0 := by
    have key : ∀ k, Lib.repeatL [0] k = List.replicate k (0 : UInt8) := by
      intro k
      induction k with
      | zero => rfl
      | succ k ih => rw [Lib.repeatL, ih, List.replicate_succ]; rfl
    simp [padBA, key]
  rw [Bool.eq_iff_iff, beq_iff_eq, ByteArray.toList_eq, ByteArray.toList_eq, hl]
  constructor
  · intro h
    unfold zerosB
    rw [h]
    simp
  · intro h
    rw [List.eq_replicate_iff]
    unfold zerosB at h
    rw [List.all_eq_true] at h
    exact ⟨by simpa using hs, fun b hb => by simpa using h b hb⟩

set_option maxRecDepth 100000 in
set_option maxHeartbeats 4000000 in
theorem ropaque_any {b : Nat} {st : RSt} (behind n : Nat) (w : World) (h : RRd w b st) (hn : n ≤ 4294967295) (hbe : behind ≤ 8) :
    Calls Tryz.prog 126 #[.pointer (some ⟨b, 0, none⟩), .int .i64 behind, .int .i64 n] w fun r w' => r = .returned (.string (st.textV behind n)) ∧ Fr (fun k => k = b) w w' ∧ RRd w' b (st.textS behind n) := by
  have hsz := h.size
  obtain ⟨Y, hY⟩ : ∃ Y, Y = padBA n := ⟨_, rfl⟩
  have hq : padN n = Y.size := by rw [hY, padBA_size]
  have hp : Y.size ≤ 3 := by rw [← hq]; exact padN_lt n
  have HP := fun w => Lib.hid (Padding_any n w (by omega))
  rw [← hY] at HP
  have ht := there_any (b := b) (st := st) (behind + n + Y.size)
  rw [show ((behind + n + Y.size : Nat) : Int) = (behind : Int) + n + Y.size by omega] at ht
  have HZ := Lib.hid (@zeros_pad_eq (st.rest.extract (behind + n) (behind + n + Y.size)) n)
  rw [← hY] at HZ
  have HQ := Lib.hid hq
  clear hY hq
  by_cases he : (st.peeked (behind + n + Y.size)).e = 0
  · obtain ⟨e1, e2, e3, _⟩ := peeked_good he
    have hd : decide ((st.peeked (behind + n + Y.size)).e = 0) = true := by simpa using he
    rw [hd, e1] at ht
    have ht0 := fun w h => Lib.hid (ht w h)
    have hK := rTakes_any (b := b) (st := st) (behind + n + Y.size)
    rw [show ((behind + n + Y.size : Nat) : Int) = (behind : Int) + n + Y.size by omega] at hK
    have HK := Lib.hid hK
    have E2 := Lib.hid e2
    have E3 := Lib.hid e3
    have hexx : (st.rest.extract 0 (behind + n + Y.size)).extract behind (behind + n) = st.rest.extract behind (behind + n) := by
      rw [ByteArray.extract_extract]; congr 1 <;> omega
    have HX := Lib.hid hexx
    have b1 : (behind : Int) + n + Y.size ≤ st.rest.size := by omega
    clear ht hd he e1 e2 e3 hK hexx
    go_enter Tryz.func126, Tryz.ntmps126
    go_wp2_with (first | (go_at_call 122; refine (HP _).out.mono ?_; rintro e w0 ⟨rfl, hf0⟩) | (go_at_call 105; refine ((ht0 _ (h.fr hf0 id)).out).mono ?_; rintro e w1 ⟨rfl, hf1, h1⟩))
    have c0 := cellOf h1.blk 0
    simp at c0
    have b2 : (0 : Int) ≤ (behind : Int) + n := by omega
    have b3 : (behind : Int) + n ≤ (behind : Int) + n + Y.size := by omega
    have b4 : ((behind : Int) + n).toNat = behind + n := by omega
    have b5 : ((behind : Int) + n + Y.size).toNat = behind + n + Y.size := by omega
    have b6 : IntKind.i64.wrap ((behind : Int) + n) = (behind : Int) + n := IntWalk.i64_in _ (by omega)
    have b7 : IntKind.i64.wrap ((behind : Int) + n + Y.size) = (behind : Int) + n + Y.size := IntWalk.i64_in _ (by omega)
    go_region_held3 (fun w' => w'.cell? ⟨b, 0, none⟩ = some (.string st.rest)) (exact c0) ((go_at_call 122; refine (HP _).out.mono ?_; rintro e w2 ⟨rfl, hf2⟩; (try have hf2 := Fr.ofDrewR hf2); have h2 : RRd w2 b st := h1.fr hf2 id; have c0 := cellOf h2.blk 0; simp at c0))
    have c1 := cellOf h2.blk 1
    have f0 := freeOf h2.blk 0
    have f1 := freeOf h2.blk 1
    simp at c1
    have hfr : Fr (fun k => k = b) w w2 := (hf0.mono (fun _ _ h => h.elim)).trans (hf1.trans (hf2.mono (fun _ _ h => h.elim)))
    clear b2 b3 b4 b5 b6 b7
    have hsz2 : (st.rest.extract (behind + n) (behind + n + Y.size)).size = padN n := by rw [HQ.out]; simp; have := E2.out; omega
    have hz0 := HZ.out hsz2
    have hpp : (st.rest.extract (behind + n) (behind + n + Y.size)) = st.padPart behind n := by unfold RSt.padPart; rw [HQ.out]
    by_cases hz : zerosB (st.padPart behind n) = true
    · have hV : st.textV behind n = st.rest.extract behind (behind + n) := by unfold RSt.textV; rw [HQ.out, if_pos ⟨E3.out, E2.out, hz⟩]
      have hS : st.textS behind n = st.drop (behind + n + Y.size) := by unfold RSt.textS; rw [HQ.out, if_pos E3.out, if_neg (by have := E2.out; omega), if_pos hz]
      rw [hpp, hz, ← hpp] at hz0
      have HV := Lib.hid hV
      have HS := Lib.hid hS
      have hz2 : (!((st.rest.extract (behind + n) (behind + n + Y.size)).toList == Y.toList)) = false := by rw [hz0]; rfl
      have h2' := Lib.hid h2
      clear hpp hz hV hS hsz2 h2
      go_wp2
      · exfalso
        have hX : (!((st.rest.extract (behind + n) (behind + n + Y.size)).toList == Y.toList)) = true := by assumption
        exact Bool.noConfusion (hX.symm.trans hz2)
      go_ret
      rw [HV.out, HS.out, ← HX.out]
      refine ⟨rfl, hfr.trans (Fr.set1 _ _ _ _), (setOf' h2'.out.blk 0 _).trans (by simp [RSt.drop]), ?_⟩
      · show (st.rest.extract (behind + n + Y.size) st.rest.size).size ≤ _
        simp
        omega
    · have hV : st.textV behind n = ByteArray.empty := by unfold RSt.textV; rw [HQ.out, if_neg (fun h => hz h.2.2)]
      have hS : st.textS behind n = st.fail 24 := by unfold RSt.textS; rw [HQ.out, if_pos E3.out, if_neg (by have := E2.out; omega), if_neg hz]
      rw [Bool.not_eq_true] at hz
      rw [hpp, hz, ← hpp] at hz0
      have HV := Lib.hid hV
      have HS := Lib.hid hS
      have hz2 : (!((st.rest.extract (behind + n) (behind + n + Y.size)).toList == Y.toList)) = true := by rw [hz0]; rfl
      have h2' := Lib.hid (h2.set E3.out (n := 24))
      clear hpp hz hV hS hsz2 h2
      go_wp2
      · go_ret
        rw [HV.out, HS.out]
        exact ⟨rfl, hfr.trans (Fr.set1 _ _ _ _), h2'.out⟩
      · exfalso
        have hX : (!((st.rest.extract (behind + n) (behind + n + Y.size)).toList == Y.toList)) = false := by assumption
        exact Bool.noConfusion (hX.symm.trans hz2)
  · have hd : decide ((st.peeked (behind + n + Y.size)).e = 0) = false := by simpa using he
    rw [hd] at ht
    have ht0 := fun w h => Lib.hid (ht w h)
    have hV : st.textV behind n = ByteArray.empty := by
      unfold RSt.textV
      rw [HQ.out, if_neg]
      rintro ⟨h1, h2, _⟩
      exact he (by unfold RSt.peeked; rw [if_neg (by omega)]; exact h1)
    have hS : st.textS behind n = st.peeked (behind + n + Y.size) := by
      unfold RSt.textS
      rw [HQ.out]
      by_cases h0 : st.e = 0
      · rw [if_pos h0]
        have : st.rest.size < behind + n + Y.size := by
          rcases Nat.lt_or_ge st.rest.size (behind + n + Y.size) with h | h
          · exact h
          · exact absurd (by unfold RSt.peeked; rw [if_neg (by omega)]; exact h0) he
        rw [if_pos this]
        unfold RSt.peeked
        rw [if_pos ⟨h0, this⟩]
      · rw [if_neg h0, peeked_bad h0]
    rw [hV, hS]
    clear hV hS hd he ht
    go_enter Tryz.func126, Tryz.ntmps126
    go_wp2_with (first | (go_at_call 122; refine (HP _).out.mono ?_; rintro e w0 ⟨rfl, hf0⟩) | (go_at_call 105; refine ((ht0 _ (h.fr hf0 id)).out).mono ?_; rintro e w1 ⟨rfl, hf1, h1⟩))
    go_ret
    exact ⟨rfl, (hf0.mono (fun _ _ h => h.elim)).trans hf1, h1⟩

set_option maxRecDepth 100000 in
theorem rROpaque_any {b : Nat} {st : RSt} (most : Int) (w : World) (h : RRd w b st) :
    Calls Tryz.prog 101 #[.pointer (some ⟨b, 0, none⟩), .int .i64 most] w fun r w' => r = .returned (.string (st.opaqueV most)) ∧ Fr (fun k => k = b) w w' ∧ RRd w' b (st.opaqueS most) := by
  have hc := Lib.hid (counted_any most w h)
  by_cases he : (st.manyS most).e = 0
  · have hd : decide ((st.manyS most).e = 0) = true := by simpa using he
    have hb := manyV_bound st most
    have hT := fun (w : World) (h : RRd w b (st.manyS most)) => ropaque_any 4 (st.manyV most).toNat w h (by omega) (by omega)
    rw [show (((st.manyV most).toNat : Nat) : Int) = st.manyV most by omega] at hT
    have HT := Lib.hid hT
    rw [hd] at hc
    unfold RSt.opaqueV RSt.opaqueS
    clear hd he h hT
    go_enter Tryz.func101, Tryz.ntmps101
    go_wp2_with (first | (go_at_call 125; refine hc.out.mono ?_; rintro e w1 ⟨rfl, hf1, h1⟩) | (go_at_call 126; refine (HT.out _ h1).mono ?_; rintro e w2 ⟨rfl, hf2, h2⟩))
    go_ret
    exact ⟨rfl, hf1.trans hf2, h2⟩
  · have hd : decide ((st.manyS most).e = 0) = false := by simpa using he
    have hV : st.opaqueV most = ByteArray.empty := by unfold RSt.opaqueV RSt.textV; rw [if_neg (fun h => he h.1)]
    have hS : st.opaqueS most = st.manyS most := by unfold RSt.opaqueS RSt.textS; rw [if_neg he]
    rw [hd] at hc
    rw [hV, hS]
    clear hd hV hS he h
    go_enter Tryz.func101, Tryz.ntmps101
    go_wp2_with (go_at_call 125; refine hc.out.mono ?_; rintro e w1 ⟨rfl, hf1, h1⟩)
    go_ret
    exact ⟨rfl, hf1, h1⟩
end Go.Proofs.YtcooijhndiainaaGreatDoor
