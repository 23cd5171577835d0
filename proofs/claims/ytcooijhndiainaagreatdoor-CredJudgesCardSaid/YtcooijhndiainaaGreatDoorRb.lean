/- The document's credentials (callboxref11): Judge. -/
import Derived.Test.YtcooijhndiainaaGreatDoorRa
import Derived.Test.YtcooijhndiainaaGreatDoorJu
namespace Go.Proofs.YtcooijhndiainaaGreatDoor
open Go.RowKit

theorem cred_mark {c : CallM} (h : c.cred.flavor = 1296126539) (h0 : (credM c).2.2 = 0) : credM c = ((parseMarkM c.cred).1, true, 0) := by
  unfold credM at h0 ⊢
  rw [if_neg (by omega), if_neg (by omega), if_pos h] at h0 ⊢
  split
  · rfl
  · rename_i hc; rw [if_neg hc] at h0; exact absurd h0 (by decide)
theorem cred_other {c : CallM} (h : c.cred.flavor ≠ 1296126539) : credM c = (zeroMark, false, (credM c).2.2) := by
  unfold credM
  repeat' split
  all_goals first | rfl | contradiction
theorem cred_bad {c : CallM} (h : (credM c).2.2 ≠ 0) : credM c = (zeroMark, false, (credM c).2.2) := by
  unfold credM at h ⊢
  repeat' split
  all_goals first | rfl | (rename_i h1 h2 h3 h4; rw [if_neg h1, if_neg h2, if_pos h3, if_pos h4] at h; exact absurd rfl h)

set_option maxRecDepth 100000 in
set_option maxHeartbeats 4000000 in
theorem rcredential_any (c : CallM) (w : World) (hs : c.cred.body.size ≤ 1099511627776) :
    Calls Tryz.prog 65 #[.agg (callCells c)] w fun r w' => r = .returned (.int .i64 (credM c).2.2) ∧ Fr (fun _ => False) w w' := by
  have hx0 := Lib.hid (heap_alloc_new w (.cells (callCells c) 50))
  have HF := Lib.hid ((Fr.refl (fun _ => False) w).alloc (.cells (callCells c) 50))
  unfold callCells at *
  by_cases hf0 : c.cred.flavor = 0
  · have hb0 : (c.cred.flavor == 0) = true := by rw [beq_iff_eq]; exact hf0
    by_cases hbd : c.cred.body.size = 0
    · have hR : (credM c).2.2 = 0 := by simp [credM, hf0, hbd]
      have he : c.cred.body.toList.isEmpty = true := by rw [isEmpty_size]; simp [hbd]
      have HR := Lib.hid hR
      clear hR hf0 hbd
      go_enter Tryz.func65, Tryz.ntmps65
      go_wp2
      go_ret
      exact ⟨by rw [HR.out]; rfl, HF.out⟩
    · have hR : (credM c).2.2 = 1 := by simp [credM, hf0, hbd]
      have he : c.cred.body.toList.isEmpty = false := by rw [isEmpty_size]; simp [hbd]
      have HR := Lib.hid hR
      clear hR hf0 hbd
      go_enter Tryz.func65, Tryz.ntmps65
      go_wp2
      go_ret
      exact ⟨by rw [HR.out]; rfl, HF.out⟩
  · have hb0 : (c.cred.flavor == 0) = false := by rw [beq_eq_false_iff_ne]; exact hf0
    by_cases hf1 : c.cred.flavor = 1
    · have hb1 : (c.cred.flavor == 1) = true := by rw [beq_iff_eq]; exact hf1
      have hC := fun w => Lib.hid (rParseSys_any c.cred w hs)
      by_cases hp : (parseSysM c.cred).2 = 0
      · have hR : (credM c).2.2 = 0 := by simp [credM, hf1, hp]
        have hpb : ((parseSysM c.cred).2 != 0) = false := by rw [hp]; rfl
        have HR := Lib.hid hR
        clear hR hf0 hf1 hp
        go_enter Tryz.func65, Tryz.ntmps65
        go_wp2_with (go_at_call 21; refine (hC _).out.mono ?_; rintro e w3 ⟨hf3, gv, rfl, hI⟩; obtain ⟨GA, gc, rfl⟩ := hI.slice; unfold sysVv)
        go_ret
        exact ⟨by rw [HR.out]; rfl, (HF.out.then hf3 (fun _ _ h => h)).alloc _⟩
      · have hR : (credM c).2.2 = 1 := by simp [credM, hf1, hp]
        have hpb : ((parseSysM c.cred).2 != 0) = true := by rw [bne_iff_ne]; exact hp
        have HR := Lib.hid hR
        clear hR hf0 hf1 hp
        go_enter Tryz.func65, Tryz.ntmps65
        go_wp2_with (go_at_call 21; refine (hC _).out.mono ?_; rintro e w3 ⟨hf3, gv, rfl, hI⟩; obtain ⟨GA, gc, rfl⟩ := hI.slice; unfold sysVv)
        go_ret
        exact ⟨by rw [HR.out]; rfl, (HF.out.then hf3 (fun _ _ h => h)).alloc _⟩
    · have hb1 : (c.cred.flavor == 1) = false := by rw [beq_eq_false_iff_ne]; exact hf1
      by_cases hf2 : c.cred.flavor = 1296126539
      · have hb2 : (c.cred.flavor == 1296126539) = true := by rw [beq_iff_eq]; exact hf2
        have hR : credM c = if (parseMarkM c.cred).2 = 0 ∧ c.xid = (parseMarkM c.cred).1.seq ∧ (parseMarkM c.cred).1.water ≤ (parseMarkM c.cred).1.seq then ((parseMarkM c.cred).1, true, 0) else (zeroMark, false, 1) := by simp [credM, hf2]
        have hC := fun w => Lib.hid (rParseMark_any c.cred w hs)
        clear hf0 hf1 hf2
        generalize parseMarkM c.cred = pm at *
        obtain ⟨m, e⟩ := pm
        simp only at hR hC
        by_cases hp : e = 0
        · have hpb : (e != 0) = false := by rw [hp]; rfl
          by_cases hx : c.xid = m.seq
          · have hxb : (m.seq != c.xid) = false := by rw [hx]; simp
            by_cases hw : m.water ≤ m.seq
            · rw [if_pos ⟨hp, hx, hw⟩] at hR
              have HR := Lib.hid hR
              clear hR hp hx
              go_enter Tryz.func65, Tryz.ntmps65
              go_wp2_with (go_at_call 23; refine (hC _).out.mono ?_; rintro e w3 ⟨hf3, gv, rfl, hI⟩; obtain ⟨GA, gc, rfl⟩ := hI.slice; have hx0 := hidMove hx0 hf3 id; obtain ⟨d0, d1, d2, d3, d4, d5, d6, d7, d8, d9⟩ := box10 hx0; have hlt0 : w.heap.size < w3.heap.size := lt_of_block hx0.out; unfold markVv)
              go_ret
              exact ⟨by rw [HR.out]; rfl, (HF.out.then hf3 (fun _ _ h => h)).alloc _⟩
            · rw [if_neg (by simp [hw])] at hR
              have HR := Lib.hid hR
              have hw' := Int.not_le.1 hw
              clear hR hp hx hw
              go_enter Tryz.func65, Tryz.ntmps65
              go_wp2_with (go_at_call 23; refine (hC _).out.mono ?_; rintro e w3 ⟨hf3, gv, rfl, hI⟩; obtain ⟨GA, gc, rfl⟩ := hI.slice; have hx0 := hidMove hx0 hf3 id; obtain ⟨d0, d1, d2, d3, d4, d5, d6, d7, d8, d9⟩ := box10 hx0; have hlt0 : w.heap.size < w3.heap.size := lt_of_block hx0.out; unfold markVv)
              go_ret
              exact ⟨by rw [HR.out]; rfl, (HF.out.then hf3 (fun _ _ h => h)).alloc _⟩
          · rw [if_neg (by simp [hx])] at hR
            have hxb : (m.seq != c.xid) = true := by rw [bne_iff_ne]; exact fun h => hx h.symm
            have HR := Lib.hid hR
            clear hR hp hx
            go_enter Tryz.func65, Tryz.ntmps65
            go_wp2_with (go_at_call 23; refine (hC _).out.mono ?_; rintro e w3 ⟨hf3, gv, rfl, hI⟩; obtain ⟨GA, gc, rfl⟩ := hI.slice; have hx0 := hidMove hx0 hf3 id; obtain ⟨d0, d1, d2, d3, d4, d5, d6, d7, d8, d9⟩ := box10 hx0; have hlt0 : w.heap.size < w3.heap.size := lt_of_block hx0.out; unfold markVv)
            go_ret
            exact ⟨by rw [HR.out]; rfl, (HF.out.then hf3 (fun _ _ h => h)).alloc _⟩
        · rw [if_neg (by simp [hp])] at hR
          have hpb : (e != 0) = true := by rw [bne_iff_ne]; exact hp
          have HR := Lib.hid hR
          clear hR hp
          go_enter Tryz.func65, Tryz.ntmps65
          go_wp2_with (go_at_call 23; refine (hC _).out.mono ?_; rintro e w3 ⟨hf3, gv, rfl, hI⟩; obtain ⟨GA, gc, rfl⟩ := hI.slice; have hx0 := hidMove hx0 hf3 id; obtain ⟨d0, d1, d2, d3, d4, d5, d6, d7, d8, d9⟩ := box10 hx0; have hlt0 : w.heap.size < w3.heap.size := lt_of_block hx0.out; unfold markVv)
          go_ret
          exact ⟨by rw [HR.out]; rfl, (HF.out.then hf3 (fun _ _ h => h)).alloc _⟩
      · have hb2 : (c.cred.flavor == 1296126539) = false := by rw [beq_eq_false_iff_ne]; exact hf2
        have hR : (credM c).2.2 = 2 := by simp [credM, hf0, hf1, hf2]
        have HR := Lib.hid hR
        clear hR hf0 hf1 hf2
        go_enter Tryz.func65, Tryz.ntmps65
        go_wp2
        go_ret
        exact ⟨by rw [HR.out]; rfl, HF.out⟩

/-- what Judge tells, by why. -/
theorem judge_cases (c : CallM) (why : Int) (hw : why = if (credM c).2.2 = 0 ∧ ¬ (c.verf.flavor = 0 ∧ c.verf.body.size = 0) then 3 else (credM c).2.2) :
    judgeM c = if why ≠ 0 ∨ c.cred.flavor ≠ 1296126539 then (zeroMark, false, why) else ((parseMarkM c.cred).1, true, why) := by
  unfold judgeM
  by_cases hc : (credM c).2.2 = 0 ∧ ¬ (c.verf.flavor = 0 ∧ c.verf.body.size = 0)
  · rw [if_pos hc] at hw
    rw [if_pos hc, if_pos (.inl (by omega)), hw]
  · rw [if_neg hc] at hw
    rw [if_neg hc]
    subst hw
    by_cases h0 : (credM c).2.2 = 0
    · by_cases hf : c.cred.flavor = 1296126539
      · rw [if_neg (by simp [h0, hf]), h0]
        exact cred_mark hf h0
      · rw [if_pos (.inr hf)]
        exact cred_other hf
    · rw [if_pos (.inl h0)]
      exact cred_bad h0

set_option maxRecDepth 100000 in
set_option maxHeartbeats 4000000 in
theorem rJudge_any (c : CallM) (w : World) (hs : c.cred.body.size ≤ 1099511627776) :
    Calls Tryz.prog 29 #[.agg (callCells c)] w fun r w' => Fr (fun _ => False) w w' ∧ ∃ gv, r = .returned (.tuple #[markVv (judgeM c).1 gv, .bool (judgeM c).2.1, .int .i64 (judgeM c).2.2]) ∧ IntsNew w w' gv (judgeM c).1.sys.groups := by
  have hx1 := Lib.hid (heap_two (w := w) (a := .cells (callCells c) 50) (b := .cells #[.int .i64 0, .int .i64 0, .int .i64 0, .int .i64 0, .string ByteArray.empty, .int .i64 0, .int .i64 0, .slice none 0 0] 26))
  have hx0 := Lib.hid (heap_old (o := .cells #[.int .i64 0, .int .i64 0, .int .i64 0, .int .i64 0, .string ByteArray.empty, .int .i64 0, .int .i64 0, .slice none 0 0] 26) (heap_alloc_new w (.cells (callCells c) 50)))
  have HB := Lib.hid ((((Below.refl _ _).alloc (Nat.le_refl _) _).alloc (by simp) _) : Below w.heap.size w ((w.alloc (.cells (callCells c) 50)).alloc (.cells #[.int .i64 0, .int .i64 0, .int .i64 0, .int .i64 0, .string ByteArray.empty, .int .i64 0, .int .i64 0, .slice none 0 0] 26)))
  have HC := fun w => Lib.hid (rcredential_any c w hs)
  have HP := fun w => Lib.hid (rParseMark_any c.cred w hs)
  obtain ⟨why, hwhy⟩ : ∃ why : Int, why = if (credM c).2.2 = 0 ∧ ¬ (c.verf.flavor = 0 ∧ c.verf.body.size = 0) then 3 else (credM c).2.2 := ⟨_, rfl⟩
  have HJ := Lib.hid (judge_cases c why hwhy)
  have HWhy := Lib.hid hwhy
  generalize credM c = cm at *
  obtain ⟨cm1, cm2, y⟩ := cm
  simp only at hwhy
  have HY := Lib.hid hwhy
  clear hwhy
  unfold callCells at *
  go_enter Tryz.func29, Tryz.ntmps29
  go_wp2_with fail
  refine (HC _).out.mono ?_
  rintro e w2 ⟨rfl, hf2⟩
  have hx0 := hidMove hx0 hf2 id
  have hx1 := hidMove hx1 hf2 id
  have hfw : Fr (fun _ => False) w w2 := (Fr.ofBelow HB.out).then hf2 (fun _ _ h => h)
  have hl0 : w.heap.size < w2.heap.size := lt_of_block hx0.out
  have hl1 : w.heap.size + 1 < w2.heap.size := lt_of_block hx1.out
  obtain ⟨d0, d1, d2, d3, d4, d5, d6, d7, d8, d9⟩ := box10 hx0
  clear hf2 HC HB
  by_cases hz : y = 0
  case neg =>
    have e1 : why = y := by rw [HY.out, if_neg (fun h => hz h.1)]
    have hR := HJ.out
    rw [if_pos (.inl (by rw [e1]; exact hz)), e1] at hR
    have HR := Lib.hid hR
    have hyb : (y == 0) = false := by rw [beq_eq_false_iff_ne]; exact hz
    have hyn : (y != 0) = true := by rw [bne_iff_ne]; exact hz
    clear hR e1 HY HJ hz
    obtain ⟨s0, s1, s2, s3, s4, s5, s6, s7⟩ := box8 hx1
    obtain ⟨g0, g1, g2, g3, g4, g5, g6, g7⟩ := frees8 hx1
    go_wp2
    refine bodyPost_ret (v := .tuple #[markVv zeroMark (.slice none 0 0), .bool false, .int .i64 y]) ?_ rfl ?_
    · simp [results, Tryz.results29, go_sem, markVv, zeroMark, zeroSys, s0, s1, s2, s3, s4, s5, s6, s7]
      rfl
    · rw [HR.out]
      exact ⟨hfw.set8 (by omega) _ _ _ _ _ _ _ _, _, rfl, IntsNew.nil _ _⟩
  by_cases hv : c.verf.flavor = 0 ∧ c.verf.body.size = 0
  case neg =>
    have e1 : why = 3 := by rw [HY.out, if_pos ⟨hz, hv⟩]
    have hR := HJ.out
    rw [if_pos (.inl (by rw [e1]; decide)), e1] at hR
    have HR := Lib.hid hR
    have hyb : (y == 0) = true := by rw [beq_iff_eq]; exact hz
    clear hR e1 HY HJ hz
    obtain ⟨s0, s1, s2, s3, s4, s5, s6, s7⟩ := box8 hx1
    obtain ⟨g0, g1, g2, g3, g4, g5, g6, g7⟩ := frees8 hx1
    by_cases hvf : c.verf.flavor = 0
    · have hvb : (c.verf.flavor != 0) = false := by rw [hvf]; rfl
      have he : c.verf.body.toList.isEmpty = false := by rw [isEmpty_size]; simp; exact fun h => hv ⟨hvf, by rw [h]; rfl⟩
      clear hv hvf
      go_wp2
      refine bodyPost_ret (v := .tuple #[markVv zeroMark (.slice none 0 0), .bool false, .int .i64 3]) ?_ rfl ?_
      · simp [results, Tryz.results29, go_sem, markVv, zeroMark, zeroSys, s0, s1, s2, s3, s4, s5, s6, s7]
        rfl
      · rw [HR.out]
        exact ⟨hfw.set8 (by omega) _ _ _ _ _ _ _ _, _, rfl, IntsNew.nil _ _⟩
    · have hvb : (c.verf.flavor != 0) = true := by rw [bne_iff_ne]; exact hvf
      clear hv hvf
      go_wp2
      refine bodyPost_ret (v := .tuple #[markVv zeroMark (.slice none 0 0), .bool false, .int .i64 3]) ?_ rfl ?_
      · simp [results, Tryz.results29, go_sem, markVv, zeroMark, zeroSys, s0, s1, s2, s3, s4, s5, s6, s7]
        rfl
      · rw [HR.out]
        exact ⟨hfw.set8 (by omega) _ _ _ _ _ _ _ _, _, rfl, IntsNew.nil _ _⟩
  have e1 : why = 0 := by rw [HY.out, if_neg (fun h => h.2 hv), hz]
  have hR := HJ.out
  have hvb : (c.verf.flavor != 0) = false := by rw [hv.1]; rfl
  have he : c.verf.body.toList.isEmpty = true := by rw [isEmpty_size]; simp [hv.2]
  subst hz
  by_cases hf : c.cred.flavor = 1296126539
  · rw [if_neg (by simp [e1, hf]), e1] at hR
    have hfb : (c.cred.flavor != 1296126539) = false := by rw [hf]; rfl
    have HR := Lib.hid hR
    clear hR e1 HY HJ hv hf
    go_wp2_with fail
    refine (HP _).out.mono ?_
    rintro e w3 ⟨hf3, gv, rfl, hI⟩
    obtain ⟨GA, gc, rfl⟩ := hI.slice
    have hl2 := hl1
    have hx1 := hidMove hx1 hf3 id
    have hfw := hfw.then hf3 (fun _ _ h => h)
    have hl1 : w.heap.size + 1 < w3.heap.size := lt_of_block hx1.out
    obtain ⟨s0, s1, s2, s3, s4, s5, s6, s7⟩ := box8 hx1
    obtain ⟨g0, g1, g2, g3, g4, g5, g6, g7⟩ := frees8 hx1
    unfold markVv
    clear d0 d1 d2 d3 d4 d5 d6 d7 d8 d9 HP
    go_wp2
    refine bodyPost_ret (v := .tuple #[markVv (parseMarkM c.cred).1 (.slice GA (parseMarkM c.cred).1.sys.groups.length gc), .bool true, .int .i64 0]) ?_ rfl ?_
    · simp [results, Tryz.results29, go_sem, markVv, s0, s1, s2, s3, s4, s5, s6, s7, hl1]
    · rw [HR.out]
      refine ⟨(hfw.set8 (by omega) _ _ _ _ _ _ _ _).alloc _, _, rfl, ?_⟩
      refine IntsNew.fr (S := fun _ => False) ((hI.earlier (by omega)).set8 (b := w.heap.size + 1) (fun e => ?_) _ _ _ _ _ _ _ _) ((Fr.refl _ _).alloc _) (fun _ h => h.elim)
      have := (World.ownsRow.lt hI _ e).1
      omega
  · rw [if_pos (.inr hf), e1] at hR
    have hfb : (c.cred.flavor != 1296126539) = true := by rw [bne_iff_ne]; exact hf
    have HR := Lib.hid hR
    clear hR e1 HY HJ hv hf
    obtain ⟨s0, s1, s2, s3, s4, s5, s6, s7⟩ := box8 hx1
    obtain ⟨g0, g1, g2, g3, g4, g5, g6, g7⟩ := frees8 hx1
    go_wp2
    refine bodyPost_ret (v := .tuple #[markVv zeroMark (.slice none 0 0), .bool false, .int .i64 0]) ?_ rfl ?_
    · simp [results, Tryz.results29, go_sem, markVv, zeroMark, zeroSys, s0, s1, s2, s3, s4, s5, s6, s7]
      rfl
    · rw [HR.out]
      exact ⟨hfw.set8 (by omega) _ _ _ _ _ _ _ _, _, rfl, IntsNew.nil _ _⟩
end Go.Proofs.YtcooijhndiainaaGreatDoor
