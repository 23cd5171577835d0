/- The Reader of package xdr: texts with their padding. -/
import Derived.Test.YtlcjfafmmoncpaaGreatDoorRm
import Derived.Test.YtlcjfafmmoncpaaGreatDoorXp
import Derived.Deep.QuietTactic
import Derived.BigQuiet
namespace Go.Proofs.YtlcjfafmmoncpaaGreatDoor
open Go.RowKit
set_option linter.unusedVariables false
set_option linter.unusedSimpArgs false

theorem padding_same (n : Nat) (w : World) (hn : n ≤ 140737488355328) : Calls Tryz.prog 155 #[.int .i64 n] w fun r w' => r = .returned (.int .i64 (padN n)) ∧ w' = w :=
  (padding_any n w hn).mono fun _ _ ⟨h1, h2⟩ => ⟨h1, h2.symm⟩

/-- all noughts? -/
def zerosB (s : ByteArray) : Bool := s.data.toList.all (· == 0)
def RSt.padPart (st : RSt) (behind n : Nat) : ByteArray := st.rest.extract (behind + n) (behind + n + padN n)
def RSt.textS (st : RSt) (behind n : Nat) : RSt :=
  if st.e = 0 then (if st.rest.size < behind + n + padN n then st.fail 20 else if zerosB (st.padPart behind n) = true then st.drop (behind + n + padN n) else st.fail 24) else st
def RSt.textV (st : RSt) (behind n : Nat) : ByteArray :=
  if st.e = 0 ∧ behind + n + padN n ≤ st.rest.size ∧ zerosB (st.padPart behind n) = true then st.rest.extract behind (behind + n) else ByteArray.empty

theorem dropWhile_all {α : Type} (p : α → Bool) : ∀ (l : List α), l.all p = true → l.dropWhile p = [] := by
  intro l
  induction l with
  | nil => intro _; rfl
  | cons a l ih =>
    intro h
    rw [List.all_cons, Bool.and_eq_true] at h
    rw [List.dropWhile_cons, if_pos h.1]
    exact ih h.2
theorem dropWhile_nil {α : Type} (p : α → Bool) : ∀ (l : List α), l.dropWhile p = [] → l.all p = true := by
  intro l
  induction l with
  | nil => intro _; rfl
  | cons a l ih =>
    intro h
    rw [List.dropWhile_cons] at h
    split at h
    · rename_i ha
      rw [List.all_cons, ha, ih h]
      rfl
    · cases h
theorem all_dropWhile {α : Type} (p : α → Bool) : ∀ (l : List α), (l.dropWhile p).all p = true → l.all p = true := by
  intro l
  induction l with
  | nil => intro _; rfl
  | cons a l ih =>
    intro h
    rw [List.dropWhile_cons] at h
    split at h
    · rename_i ha
      rw [List.all_cons, ha, ih h]
      rfl
    · exact h
theorem trim_zeros (s : ByteArray) (h : zerosB s = true) : Lib.trimB s.data.toList 0 = [] := by
  unfold Lib.trimB Lib.trimLeftB Lib.trimRightB
  rw [dropWhile_all _ s.data.toList.reverse (by rw [List.all_reverse]; exact h)]
  rfl
theorem trim_some (s : ByteArray) (h : zerosB s = false) : Lib.trimB s.data.toList 0 ≠ [] := by
  intro h2
  unfold Lib.trimB Lib.trimLeftB Lib.trimRightB at h2
  have h3 := dropWhile_nil _ _ h2
  rw [List.all_reverse] at h3
  have h4 := all_dropWhile _ _ h3
  rw [List.all_reverse] at h4
  unfold zerosB at h
  rw [h] at h4
  cases h4

theorem trim_quiet (s : ByteArray) (w : World) (hs : s.size ≤ 9223372036854775807) :
    Calls Tryz.prog 157 #[.string s, .string ⟨#[0]⟩] w fun e w' => e = .returned (.string ⟨(Lib.trimB s.data.toList 0).toArray⟩) ∧ ∃ m, w' = w.drewN m :=
  (Tryz.strings_Trim_one s 0 (by decide) w hs).mono fun _ _ ⟨h1, h2⟩ => ⟨h1, h2.elim (fun h => ⟨0, h⟩) (fun h => ⟨1, h⟩)⟩
theorem trim_zeros_quiet (s : ByteArray) (w : World) (hs : s.size ≤ 9223372036854775807) (hz : zerosB s = true) :
    Calls Tryz.prog 157 #[.string s, .string ⟨#[0]⟩] w fun e w' => e = .returned (.string ByteArray.empty) ∧ ∃ m, w' = w.drewN m := by
  have := trim_quiet s w hs
  rw [trim_zeros s hz] at this
  exact this

set_option maxRecDepth 100000 in
set_option maxHeartbeats 2000000 in
theorem text_any {b : Nat} {st : RSt} (behind n : Nat) (w : World) (h : Rd w b st) (hn : n ≤ 4294967295) (hb : st.e = 0 → behind ≤ st.rest.size) :
    Calls Tryz.prog 122 #[.pointer (some ⟨b, 0, none⟩), .int .i64 behind, .int .i64 n] w fun r w' => r = .returned (.string (st.textV behind n)) ∧ Fr (fun k => k = b) w w' ∧ w'.heap.size = w.heap.size ∧ Rd w' b (st.textS behind n) := by
  have c0 := cellOf h.blk 0
  have c1 := cellOf h.blk 1
  simp at c0 c1
  have hsz := h.size
  have hp := padN_lt n
  rcases errV_form st.e with ⟨h0, hz⟩ | ⟨h0, hz⟩
  · have hb' := hb h0
    rw [hz] at c1
    by_cases hl : st.rest.size < behind + n + padN n
    · have e1 : st.textV behind n = ByteArray.empty := by unfold RSt.textV; rw [if_neg (by omega)]
      have e2 : st.textS behind n = st.fail 20 := by unfold RSt.textS; rw [if_pos h0, if_pos hl]
      have hne : (st.fail 20).e ≠ 0 := fail_e (by decide)
      rw [e1, e2]
      have H := Lib.hid h
      have HN := Lib.hid hne
      clear e1 e2 hne h h0 hz hb
      go_enter Tryz.func122, Tryz.ntmps122
      go_wp2
      go_quiet ((go_at_call 155; exact Calls.quiet_of_same (padding_same _ _ (by omega))))
      have hd : Rd (w.drewN nq) b st := H.out.keep rfl
      go_wp2_with (go_at_call 92; refine (RFail_any _ _ hd).mono ?_; rintro e w1 ⟨rfl, hf1, hs1, h1⟩; have c1' := cellOf h1.blk 1; simp at c1'; rw [show errV (st.fail 20).e = .iface 169 (.agg #[.int .i64 (st.fail 20).e]) by simp [errV, HN.out]] at c1')
      go_ret
      exact ⟨rfl, Fr.ofDrewN hf1, hs1, h1⟩
    · have hl' := Nat.not_lt.1 hl
      have H := Lib.hid h
      have H0 := Lib.hid h0
      by_cases hzr : zerosB (st.padPart behind n) = true
      · have e1 : st.textV behind n = st.rest.extract behind (behind + n) := by unfold RSt.textV; rw [if_pos ⟨h0, hl', hzr⟩]
        have e2 : st.textS behind n = st.drop (behind + n + padN n) := by unfold RSt.textS; rw [if_pos h0, if_neg hl, if_pos hzr]
        rw [e1, e2]
        have hps : (st.rest.extract (behind + n) (behind + n + padN n)).size ≤ 9223372036854775807 := by simp; omega
        have HT := fun w => Lib.hid (trim_zeros_quiet (st.rest.extract (behind + n) (behind + n + padN n)) w hps hzr)
        have hT := takes_any (behind + n + padN n) (st := st) (b := b)
        rw [show ((behind + n + padN n : Nat) : Int) = (behind : Int) + n + padN n by omega] at hT
        have HTK := Lib.hid hT
        have HL := Lib.hid (fun (_ : st.e = 0) => hl')
        clear e1 e2 h h0 hz hb hl hzr hT
        go_enter Tryz.func122, Tryz.ntmps122
        go_wp2
        go_quiet ((go_at_call 155; exact Calls.quiet_of_same (padding_same _ _ (by omega))))
        go_wp2
        have hfw : Fr (fun k => k = b) w (w.drewN nq) := (Fr.refl _ _).drewN nq
        have hsw : (w.drewN nq).heap.size = w.heap.size := rfl
        have hdw : Rd (w.drewN nq) b st := H.out.keep rfl
        generalize w.drewN nq = W at hfw hsw hdw ⊢
        clear c0 c1
        have c0 := cellOf hdw.blk 0
        have c1 := cellOf hdw.blk 1
        simp at c0 c1
        rw [show errV st.e = .nilIface by simp [errV, H0.out]] at c1
        go_quiet ((first | (go_at_call 155; exact Calls.quiet_of_same (padding_same _ _ (by omega))) | (go_at_call 157; exact Calls.quiet_of (HT _).out)))
        go_wp2_with (first | (go_at_call 155; refine (padding_any _ _ (by omega)).mono ?_; rintro e w' ⟨rfl, rfl⟩) | (go_at_call 98; refine (HTK.out _ (by exact hdw.keep rfl) HL.out).mono ?_; rintro e w2 ⟨rfl, hf2, hs2, h2⟩))
        go_ret
        refine ⟨rfl, hfw.trans (Fr.ofDrewN hf2), hs2.trans hsw, ?_⟩
        have := h2
        unfold RSt.takes at this
        rwa [if_pos H0.out] at this
      · rw [Bool.not_eq_true] at hzr
        have e1 : st.textV behind n = ByteArray.empty := by unfold RSt.textV; rw [if_neg (by simp [hzr])]
        have e2 : st.textS behind n = st.fail 24 := by unfold RSt.textS; rw [if_pos h0, if_neg hl, if_neg (by simp [hzr])]
        rw [e1, e2]
        have hps : (st.rest.extract (behind + n) (behind + n + padN n)).size ≤ 9223372036854775807 := by simp; omega
        have HT := fun w => Lib.hid (trim_quiet (st.rest.extract (behind + n) (behind + n + padN n)) w hps)
        have hne : (Lib.trimB (st.rest.extract (behind + n) (behind + n + padN n)).data.toList 0).isEmpty = false := by
          rw [← Bool.not_eq_true, List.isEmpty_iff]
          exact trim_some _ hzr
        generalize Lib.trimB (st.rest.extract (behind + n) (behind + n + padN n)).data.toList 0 = T at HT hne
        have HNE := Lib.hid hne
        clear e1 e2 h h0 hz hb hl hzr hne
        go_enter Tryz.func122, Tryz.ntmps122
        go_wp2
        go_quiet ((go_at_call 155; exact Calls.quiet_of_same (padding_same _ _ (by omega))))
        go_wp2
        have hfw : Fr (fun k => k = b) w (w.drewN nq) := (Fr.refl _ _).drewN nq
        have hsw : (w.drewN nq).heap.size = w.heap.size := rfl
        have hdw : Rd (w.drewN nq) b st := H.out.keep rfl
        generalize w.drewN nq = W at hfw hsw hdw ⊢
        clear c0 c1
        have c0 := cellOf hdw.blk 0
        have c1 := cellOf hdw.blk 1
        simp at c0 c1
        rw [show errV st.e = .nilIface by simp [errV, H0.out]] at c1
        have hne := HNE.out
        go_quiet ((first | (go_at_call 155; exact Calls.quiet_of_same (padding_same _ _ (by omega))) | (go_at_call 157; exact Calls.quiet_of (HT _).out)))
        go_wp2_with (go_at_call 92; refine (RFail_any 24 _ (by exact hdw.keep rfl)).mono ?_; rintro e w2 ⟨rfl, hf2, hs2, h2⟩)
        go_ret
        exact ⟨rfl, hfw.trans (Fr.ofDrewN hf2), hs2.trans hsw, h2⟩
  · have e1 : st.textV behind n = ByteArray.empty := by unfold RSt.textV; rw [if_neg (by simp [h0])]
    have e2 : st.textS behind n = st := by unfold RSt.textS; rw [if_neg h0]
    rw [e1, e2]
    rw [hz] at c1
    have H := Lib.hid h
    clear e1 e2 h h0 hz hb c0
    go_enter Tryz.func122, Tryz.ntmps122
    go_wp2
    go_quiet (fail)
    go_wp2
    go_ret
    exact ⟨rfl, (Fr.refl _ _).drewN _, rfl, H.out.keep rfl⟩

theorem manyV_bound (st : RSt) (most : Int) : 0 ≤ st.manyV most ∧ st.manyV most < 4294967296 := by
  unfold RSt.manyV
  split
  · exact peekV_bound _ 4
  · omega
def RSt.opaqueS (st : RSt) (most : Int) : RSt := (st.manyS most).textS 4 (st.manyV most).toNat
def RSt.opaqueV (st : RSt) (most : Int) : ByteArray := (st.manyS most).textV 4 (st.manyV most).toNat
set_option maxRecDepth 100000 in
theorem ROpaque_any {b : Nat} {st : RSt} (most : Int) (w : World) (h : Rd w b st) :
    Calls Tryz.prog 87 #[.pointer (some ⟨b, 0, none⟩), .int .i64 most] w fun r w' => r = .returned (.string (st.opaqueV most)) ∧ Fr (fun k => k = b) w w' ∧ w'.heap.size = w.heap.size ∧ Rd w' b (st.opaqueS most) := by
  have hb := manyV_bound st most
  have hM := Lib.hid (many_any most w h)
  have hT := fun (w : World) (h : Rd w b (st.manyS most)) => text_any 4 (st.manyV most).toNat w h (by omega) manyS_ok
  rw [show (((st.manyV most).toNat : Nat) : Int) = st.manyV most by omega] at hT
  have HT := Lib.hid hT
  clear hT h
  unfold RSt.opaqueV RSt.opaqueS
  go_enter Tryz.func87, Tryz.ntmps87
  go_wp2_with (first | (go_at_call 139; refine hM.out.mono ?_; rintro e w1 ⟨rfl, hf1, hs1, h1⟩) | (go_at_call 122; refine (HT.out _ h1).mono ?_; rintro e w2 ⟨rfl, hf2, hs2, h2⟩))
  go_ret
  exact ⟨rfl, hf1.trans hf2, hs2.trans hs1, h2⟩

end Go.Proofs.YtlcjfafmmoncpaaGreatDoor
