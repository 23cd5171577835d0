/- Package cred: Judge, with the verifier. -/
import Derived.Test.YtcndifccbkekhaaGreatDoorJd
namespace Go.Proofs.YtcndifccbkekhaaGreatDoor
open Go.RowKit
set_option linter.unusedVariables false
set_option linter.unusedSimpArgs false

def judgeM (c : CallM) : MarkM × Bool × Int :=
  if (credM c).2.2 = 0 ∧ ¬ (c.verf.flavor = 0 ∧ c.verf.body.size = 0) then (zeroMark, false, 3) else credM c

set_option maxRecDepth 100000 in
set_option maxHeartbeats 1000000 in
theorem Judge_any (c : CallM) (w : World) (hg : ErrT w) (hs : c.cred.body.size ≤ 140737488351232) :
    Calls Tryz.prog 33 #[.agg (callCells c)] w fun r w' => Fr (fun _ => False) w w' ∧ ∃ gv, r = .returned (.tuple #[markVv (judgeM c).1 gv, .bool (judgeM c).2.1, .int .i64 (judgeM c).2.2]) ∧ IntsNew w w' gv (judgeM c).1.sys.groups := by
  have hx1 := Lib.hid (heap_two (w := w) (a := .cells (callCells c) 25) (b := .cells #[.int .i64 0, .int .i64 0, .int .i64 0, .int .i64 0, .string ByteArray.empty, .int .i64 0, .int .i64 0, .slice none 0 0] 38))
  have hx0 := Lib.hid (heap_old (o := .cells #[.int .i64 0, .int .i64 0, .int .i64 0, .int .i64 0, .string ByteArray.empty, .int .i64 0, .int .i64 0, .slice none 0 0] 38) (heap_alloc_new w (.cells (callCells c) 25)))
  have HB := Lib.hid ((((Below.refl _ _).alloc (Nat.le_refl _) _).alloc (by simp) _) : Below w.heap.size w ((w.alloc (.cells (callCells c) 25)).alloc (.cells #[.int .i64 0, .int .i64 0, .int .i64 0, .int .i64 0, .string ByteArray.empty, .int .i64 0, .int .i64 0, .slice none 0 0] 38)))
  have HC := Lib.hid (credential_any c _ (hg.below HB.out) hs)
  clear hg
  unfold callCells at *
  by_cases hw : (credM c).2.2 = 0
  · have hwb : ((credM c).2.2 == 0) = true := by rw [beq_iff_eq]; exact hw
    by_cases hv : c.verf.flavor = 0
    · have hvb : (c.verf.flavor == 0) = true := by rw [beq_iff_eq]; exact hv
      by_cases hb : c.verf.body.size = 0
      · have hR : judgeM c = credM c := by simp [judgeM, hv, hb]
        have he : c.verf.body.toList.isEmpty = true := by rw [isEmpty_size]; simp [hb]
        have HR := Lib.hid hR
        clear hR hw hv hb
        go_enter Tryz.func33, Tryz.ntmps33
        go_wp2_with (go_at_call 77; refine HC.out.mono ?_; rintro e w3 ⟨hf3, gv, rfl, hI⟩; obtain ⟨GA, gc, rfl⟩ := hI.slice; have hx1 := hidMove hx1 hf3 id; have hx0 := hidMove hx0 hf3 id; obtain ⟨s0, s1, s2, s3, s4, s5, s6, s7⟩ := box8 hx1; obtain ⟨d0, d1, d2, d3, d4, d5, d6, d7, d8, d9⟩ := box10 hx0; unfold markVv; have hlt3 : w.heap.size + 1 < w3.heap.size := lt_of_block hx1.out; have hlt0 : w.heap.size < w3.heap.size := lt_of_block hx0.out; have t0 := freeOf hx1.out 0; have t1 := freeOf hx1.out 1; have t2 := freeOf hx1.out 2; have t3 := freeOf hx1.out 3; have t4 := freeOf hx1.out 4; have t5 := freeOf hx1.out 5; have t6 := freeOf hx1.out 6; have t7 := freeOf hx1.out 7)
        have hfw3 : Fr (fun _ => False) w w3 := (Fr.ofBelow HB.out).then hf3 (fun _ _ h => h)
        refine bodyPost_ret (v := .tuple #[markVv (credM c).1 (.slice GA (credM c).1.sys.groups.length gc), .bool (credM c).2.1, .int .i64 (credM c).2.2]) ?_ rfl ?_
        · simp [results, Tryz.results33, go_sem, markVv, s0, s1, s2, s3, s4, s5, s6, s7, hlt3]
        · rw [HR.out]
          refine ⟨(hfw3.set8 (by omega) _ _ _ _ _ _ _ _).alloc _, _, rfl, ?_⟩
          refine IntsNew.fr (S := fun _ => False) ((hI.earlier HB.out.size).set8 (b := w.heap.size + 1) (fun e => ?_) _ _ _ _ _ _ _ _) ((Fr.refl _ _).alloc _) (fun _ h => h.elim)
          have := (World.ownsRow.lt hI _ e).1
          simp at this
          omega
      · have hR : judgeM c = (zeroMark, false, 3) := by simp [judgeM, hw, hb]
        have he : c.verf.body.toList.isEmpty = false := by rw [isEmpty_size]; simp [hb]
        have HR := Lib.hid hR
        clear hR hw hv hb
        go_enter Tryz.func33, Tryz.ntmps33
        go_wp2_with (go_at_call 77; refine HC.out.mono ?_; rintro e w3 ⟨hf3, gv, rfl, hI⟩; obtain ⟨GA, gc, rfl⟩ := hI.slice; have hx1 := hidMove hx1 hf3 id; have hx0 := hidMove hx0 hf3 id; obtain ⟨s0, s1, s2, s3, s4, s5, s6, s7⟩ := box8 hx1; obtain ⟨d0, d1, d2, d3, d4, d5, d6, d7, d8, d9⟩ := box10 hx0; unfold markVv; have hlt3 : w.heap.size + 1 < w3.heap.size := lt_of_block hx1.out; have hlt0 : w.heap.size < w3.heap.size := lt_of_block hx0.out; have t0 := freeOf hx1.out 0; have t1 := freeOf hx1.out 1; have t2 := freeOf hx1.out 2; have t3 := freeOf hx1.out 3; have t4 := freeOf hx1.out 4; have t5 := freeOf hx1.out 5; have t6 := freeOf hx1.out 6; have t7 := freeOf hx1.out 7)
        have hfw3 : Fr (fun _ => False) w w3 := (Fr.ofBelow HB.out).then hf3 (fun _ _ h => h)
        refine bodyPost_ret (v := .tuple #[markVv zeroMark (.slice none 0 0), .bool false, .int .i64 3]) ?_ rfl ?_
        · simp [results, Tryz.results33, go_sem, markVv, zeroMark, zeroSys, s0, s1, s2, s3, s4, s5, s6, s7, hlt3]
          rfl
        · rw [HR.out]
          exact ⟨((hfw3.set8 (by omega) _ _ _ _ _ _ _ _).alloc _), _, rfl, IntsNew.nil _ _⟩
    · have hvb : (c.verf.flavor == 0) = false := by rw [beq_eq_false_iff_ne]; exact hv
      have hR : judgeM c = (zeroMark, false, 3) := by simp [judgeM, hw, hv]
      have HR := Lib.hid hR
      clear hR hw hv
      go_enter Tryz.func33, Tryz.ntmps33
      go_wp2_with (go_at_call 77; refine HC.out.mono ?_; rintro e w3 ⟨hf3, gv, rfl, hI⟩; obtain ⟨GA, gc, rfl⟩ := hI.slice; have hx1 := hidMove hx1 hf3 id; have hx0 := hidMove hx0 hf3 id; obtain ⟨s0, s1, s2, s3, s4, s5, s6, s7⟩ := box8 hx1; obtain ⟨d0, d1, d2, d3, d4, d5, d6, d7, d8, d9⟩ := box10 hx0; unfold markVv; have hlt3 : w.heap.size + 1 < w3.heap.size := lt_of_block hx1.out; have hlt0 : w.heap.size < w3.heap.size := lt_of_block hx0.out; have t0 := freeOf hx1.out 0; have t1 := freeOf hx1.out 1; have t2 := freeOf hx1.out 2; have t3 := freeOf hx1.out 3; have t4 := freeOf hx1.out 4; have t5 := freeOf hx1.out 5; have t6 := freeOf hx1.out 6; have t7 := freeOf hx1.out 7)
      have hfw3 : Fr (fun _ => False) w w3 := (Fr.ofBelow HB.out).then hf3 (fun _ _ h => h)
      refine bodyPost_ret (v := .tuple #[markVv zeroMark (.slice none 0 0), .bool false, .int .i64 3]) ?_ rfl ?_
      · simp [results, Tryz.results33, go_sem, markVv, zeroMark, zeroSys, s0, s1, s2, s3, s4, s5, s6, s7, hlt3]
        rfl
      · rw [HR.out]
        exact ⟨((hfw3.set8 (by omega) _ _ _ _ _ _ _ _).alloc _), _, rfl, IntsNew.nil _ _⟩
  · have hwb : ((credM c).2.2 == 0) = false := by rw [beq_eq_false_iff_ne]; exact hw
    have hR : judgeM c = credM c := by simp [judgeM, hw]
    have HR := Lib.hid hR
    clear hR hw
    go_enter Tryz.func33, Tryz.ntmps33
    go_wp2_with (go_at_call 77; refine HC.out.mono ?_; rintro e w3 ⟨hf3, gv, rfl, hI⟩; obtain ⟨GA, gc, rfl⟩ := hI.slice; have hx1 := hidMove hx1 hf3 id; have hx0 := hidMove hx0 hf3 id; obtain ⟨s0, s1, s2, s3, s4, s5, s6, s7⟩ := box8 hx1; obtain ⟨d0, d1, d2, d3, d4, d5, d6, d7, d8, d9⟩ := box10 hx0; unfold markVv; have hlt3 : w.heap.size + 1 < w3.heap.size := lt_of_block hx1.out; have hlt0 : w.heap.size < w3.heap.size := lt_of_block hx0.out; have t0 := freeOf hx1.out 0; have t1 := freeOf hx1.out 1; have t2 := freeOf hx1.out 2; have t3 := freeOf hx1.out 3; have t4 := freeOf hx1.out 4; have t5 := freeOf hx1.out 5; have t6 := freeOf hx1.out 6; have t7 := freeOf hx1.out 7)
    have hfw3 : Fr (fun _ => False) w w3 := (Fr.ofBelow HB.out).then hf3 (fun _ _ h => h)
    refine bodyPost_ret (v := .tuple #[markVv (credM c).1 (.slice GA (credM c).1.sys.groups.length gc), .bool (credM c).2.1, .int .i64 (credM c).2.2]) ?_ rfl ?_
    · simp [results, Tryz.results33, go_sem, markVv, s0, s1, s2, s3, s4, s5, s6, s7, hlt3]
    · rw [HR.out]
      refine ⟨(hfw3.set8 (by omega) _ _ _ _ _ _ _ _).alloc _, _, rfl, ?_⟩
      refine IntsNew.fr (S := fun _ => False) ((hI.earlier HB.out.size).set8 (b := w.heap.size + 1) (fun e => ?_) _ _ _ _ _ _ _ _) ((Fr.refl _ _).alloc _) (fun _ h => h.elim)
      have := (World.ownsRow.lt hI _ e).1
      simp at this
      omega

end Go.Proofs.YtcndifccbkekhaaGreatDoor
