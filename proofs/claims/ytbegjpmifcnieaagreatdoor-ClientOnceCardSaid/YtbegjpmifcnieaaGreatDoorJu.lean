/- Package cred: Judge. -/
import Derived.Test.YtbegjpmifcnieaaGreatDoorPm
namespace Go.Proofs.YtbegjpmifcnieaaGreatDoor
open Go.RowKit
set_option linter.unusedVariables false
set_option linter.unusedSimpArgs false

def credM (c : CallM) : MarkM × Bool × Int :=
  if c.cred.flavor = 0 then (if c.cred.body.size = 0 then (zeroMark, false, 0) else (zeroMark, false, 1))
  else if c.cred.flavor = 1 then (if (parseSysM c.cred).2 = 0 then (zeroMark, false, 0) else (zeroMark, false, 1))
  else if c.cred.flavor = 1296126539 then
    (if (parseMarkM c.cred).2 = 0 ∧ c.xid = (parseMarkM c.cred).1.seq ∧ (parseMarkM c.cred).1.water ≤ (parseMarkM c.cred).1.seq then ((parseMarkM c.cred).1, true, 0) else (zeroMark, false, 1))
  else (zeroMark, false, 2)

theorem IntsNew.nil (w0 w : World) : IntsNew w0 w (.slice none 0 0) zeroMark.sys.groups := World.ownsRow_nil _ _ _ _
theorem IntsNew.slice {w0 w : World} {gv : Value} {xs : List Int} (h : IntsNew w0 w gv xs) : ∃ A c, gv = .slice A xs.length c := owns_slice h
theorem IntsNew.fr {w0 w w' : World} {S : Nat → Prop} {gv : Value} {xs : List Int} (h : IntsNew w0 w gv xs) (hf : Fr S w w') (hs : ∀ k, S k → k < w0.heap.size) : IntsNew w0 w' gv xs :=
  ownsRow_keep h (fun g e => hf.block g (h.lt g e).2 (fun hS => by have := hs _ hS; have := (h.lt g e).1; omega))
theorem IntsNew.earlier {w0 w1 w : World} {gv : Value} {xs : List Int} (h : IntsNew w1 w gv xs) (hs : w0.heap.size ≤ w1.heap.size) : IntsNew w0 w gv xs := ownsRow_lower h hs
theorem IntsNew.set8 {w0 w : World} {gv : Value} {xs : List Int} (h : IntsNew w0 w gv xs) {b : Nat} (hb : gv.ownBlock ≠ some b) (u0 u1 u2 u3 u4 u5 u6 u7 : Value) :
    IntsNew w0 ((((((((w.setCell ⟨b, 0, none⟩ u0).setCell ⟨b, 1, none⟩ u1).setCell ⟨b, 2, none⟩ u2).setCell ⟨b, 3, none⟩ u3).setCell ⟨b, 4, none⟩ u4).setCell ⟨b, 5, none⟩ u5).setCell ⟨b, 6, none⟩ u6).setCell ⟨b, 7, none⟩ u7) gv xs :=
  ownsRow_set8 h hb _ _ _ _ _ _ _ _

set_option maxRecDepth 100000 in
set_option maxHeartbeats 2000000 in
theorem credential_any (c : CallM) (w : World) (hg : ErrT w) (hs : c.cred.body.size ≤ 140737488351232) :
    Calls Tryz.prog 188 #[.agg (callCells c)] w fun r w' => Fr (fun _ => False) w w' ∧ ∃ gv, r = .returned (.tuple #[markVv (credM c).1 gv, .bool (credM c).2.1, .int .i64 (credM c).2.2]) ∧ IntsNew w w' gv (credM c).1.sys.groups := by
  have HG := Lib.hid hg
  have hx1 := Lib.hid (heap_two (w := w) (a := .cells (callCells c) 85) (b := .cells #[.int .i64 0, .int .i64 0, .int .i64 0, .int .i64 0, .string ByteArray.empty, .int .i64 0, .int .i64 0, .slice none 0 0] 132))
  have hx0 := Lib.hid (heap_old (o := .cells #[.int .i64 0, .int .i64 0, .int .i64 0, .int .i64 0, .string ByteArray.empty, .int .i64 0, .int .i64 0, .slice none 0 0] 132) (heap_alloc_new w (.cells (callCells c) 85)))
  have HB := Lib.hid ((((Below.refl _ _).alloc (Nat.le_refl _) _).alloc (by simp) _) : Below w.heap.size w ((w.alloc (.cells (callCells c) 85)).alloc (.cells #[.int .i64 0, .int .i64 0, .int .i64 0, .int .i64 0, .string ByteArray.empty, .int .i64 0, .int .i64 0, .slice none 0 0] 132)))
  have hz2 : ErrT _ := hg.below HB.out
  have HG2 := Lib.hid hz2
  clear hg hz2
  unfold callCells at *
  by_cases hf0 : c.cred.flavor = 0
  · have hb0 : (c.cred.flavor == 0) = true := by rw [beq_iff_eq]; exact hf0
    by_cases hbd : c.cred.body.size = 0
    · have hR : credM c = (zeroMark, false, 0) := by simp [credM, hf0, hbd]
      have he : c.cred.body.toList.isEmpty = true := by rw [isEmpty_size]; simp [hbd]
      have HR := Lib.hid hR
      clear hR hf0 hbd
      go_enter Tryz.func188, Tryz.ntmps188
      go_wp2
      refine bodyPost_ret (v := .tuple #[markVv zeroMark (.slice none 0 0), .bool false, .int .i64 0]) ?_ rfl ?_
      · simp [results, Tryz.results188, go_sem, markVv, zeroMark, zeroSys]
        rfl
      · rw [HR.out]
        exact ⟨((Fr.refl _ _).alloc _).alloc _, _, rfl, IntsNew.nil _ _⟩
    · have hR : credM c = (zeroMark, false, 1) := by simp [credM, hf0, hbd]
      have he : c.cred.body.toList.isEmpty = false := by rw [isEmpty_size]; simp [hbd]
      have HR := Lib.hid hR
      clear hR hf0 hbd
      go_enter Tryz.func188, Tryz.ntmps188
      go_wp2
      refine bodyPost_ret (v := .tuple #[markVv zeroMark (.slice none 0 0), .bool false, .int .i64 1]) ?_ rfl ?_
      · simp [results, Tryz.results188, go_sem, markVv, zeroMark, zeroSys]
        rfl
      · rw [HR.out]
        exact ⟨((Fr.refl _ _).alloc _).alloc _, _, rfl, IntsNew.nil _ _⟩
  · have hb0 : (c.cred.flavor == 0) = false := by rw [beq_eq_false_iff_ne]; exact hf0
    by_cases hf1 : c.cred.flavor = 1
    · have hb1 : (c.cred.flavor == 1) = true := by rw [beq_iff_eq]; exact hf1
      by_cases hp : (parseSysM c.cred).2 = 0
      · have hR : credM c = (zeroMark, false, 0) := by simp [credM, hf1, hp]
        have hpb : ((parseSysM c.cred).2 != 0) = false := by rw [hp]; rfl
        have HR := Lib.hid hR
        clear hR hf0 hf1 hp
        go_enter Tryz.func188, Tryz.ntmps188
        go_wp2_with (go_at_call 240; refine (ParseSys_any c.cred _ HG2.out hs).mono ?_; rintro e w3 ⟨hf3, gv, rfl, hI⟩; obtain ⟨GA, gc, rfl⟩ := hI.slice; have hx1 := hidMove hx1 hf3 id; obtain ⟨s0, s1, s2, s3, s4, s5, s6, s7⟩ := box8 hx1; unfold sysVv; have hlt3 : w.heap.size + 1 < w3.heap.size := lt_of_block hx1.out; have t0 := freeOf hx1.out 0; have t1 := freeOf hx1.out 1; have t2 := freeOf hx1.out 2; have t3 := freeOf hx1.out 3; have t4 := freeOf hx1.out 4; have t5 := freeOf hx1.out 5; have t6 := freeOf hx1.out 6; have t7 := freeOf hx1.out 7)
        have hfw3 : Fr (fun _ => False) w w3 := (Fr.ofBelow HB.out).then hf3 (fun _ _ h => h)
        refine bodyPost_ret (v := .tuple #[markVv zeroMark (.slice none 0 0), .bool false, .int .i64 0]) ?_ rfl ?_
        · simp [results, Tryz.results188, go_sem, markVv, zeroMark, zeroSys, s0, s1, s2, s3, s4, s5, s6, s7, hlt3]
          rfl
        · rw [HR.out]
          exact ⟨((hfw3.set8 (by omega) _ _ _ _ _ _ _ _).alloc _), _, rfl, IntsNew.nil _ _⟩
      · have hR : credM c = (zeroMark, false, 1) := by simp [credM, hf1, hp]
        have hpb : ((parseSysM c.cred).2 != 0) = true := by rw [bne_iff_ne]; exact hp
        have HR := Lib.hid hR
        clear hR hf0 hf1 hp
        go_enter Tryz.func188, Tryz.ntmps188
        go_wp2_with (go_at_call 240; refine (ParseSys_any c.cred _ HG2.out hs).mono ?_; rintro e w3 ⟨hf3, gv, rfl, hI⟩; obtain ⟨GA, gc, rfl⟩ := hI.slice; have hx1 := hidMove hx1 hf3 id; obtain ⟨s0, s1, s2, s3, s4, s5, s6, s7⟩ := box8 hx1; unfold sysVv; have hlt3 : w.heap.size + 1 < w3.heap.size := lt_of_block hx1.out; have t0 := freeOf hx1.out 0; have t1 := freeOf hx1.out 1; have t2 := freeOf hx1.out 2; have t3 := freeOf hx1.out 3; have t4 := freeOf hx1.out 4; have t5 := freeOf hx1.out 5; have t6 := freeOf hx1.out 6; have t7 := freeOf hx1.out 7)
        have hfw3 : Fr (fun _ => False) w w3 := (Fr.ofBelow HB.out).then hf3 (fun _ _ h => h)
        refine bodyPost_ret (v := .tuple #[markVv zeroMark (.slice none 0 0), .bool false, .int .i64 1]) ?_ rfl ?_
        · simp [results, Tryz.results188, go_sem, markVv, zeroMark, zeroSys, s0, s1, s2, s3, s4, s5, s6, s7, hlt3]
          rfl
        · rw [HR.out]
          exact ⟨((hfw3.set8 (by omega) _ _ _ _ _ _ _ _).alloc _), _, rfl, IntsNew.nil _ _⟩
    · have hb1 : (c.cred.flavor == 1) = false := by rw [beq_eq_false_iff_ne]; exact hf1
      by_cases hf2 : c.cred.flavor = 1296126539
      · have hb2 : (c.cred.flavor == 1296126539) = true := by rw [beq_iff_eq]; exact hf2
        have hR : credM c = if (parseMarkM c.cred).2 = 0 ∧ c.xid = (parseMarkM c.cred).1.seq ∧ (parseMarkM c.cred).1.water ≤ (parseMarkM c.cred).1.seq then ((parseMarkM c.cred).1, true, 0) else (zeroMark, false, 1) := by simp [credM, hf2]
        by_cases hp : (parseMarkM c.cred).2 = 0
        · have hpb : ((parseMarkM c.cred).2 != 0) = false := by rw [hp]; rfl
          by_cases hx : c.xid = (parseMarkM c.cred).1.seq
          · have hxb : (c.xid != (parseMarkM c.cred).1.seq) = false := by rw [hx]; simp
            by_cases hw : (parseMarkM c.cred).1.water ≤ (parseMarkM c.cred).1.seq
            · rw [if_pos ⟨hp, hx, hw⟩] at hR
              have HR := Lib.hid hR
              clear hR hf0 hf1 hf2 hp hx
              go_enter Tryz.func188, Tryz.ntmps188
              go_wp2_with (go_at_call 241; refine (ParseMark_any c.cred _ HG2.out hs).mono ?_; rintro e w3 ⟨hf3, gv, rfl, hI⟩; obtain ⟨GA, gc, rfl⟩ := hI.slice; have hx1 := hidMove hx1 hf3 id; have hx0 := hidMove hx0 hf3 id; obtain ⟨s0, s1, s2, s3, s4, s5, s6, s7⟩ := box8 hx1; have d0 := cellOf hx0.out 0; simp at d0; have hlt0 : w.heap.size < w3.heap.size := lt_of_block hx0.out; unfold markVv; have hlt3 : w.heap.size + 1 < w3.heap.size := lt_of_block hx1.out; have t0 := freeOf hx1.out 0; have t1 := freeOf hx1.out 1; have t2 := freeOf hx1.out 2; have t3 := freeOf hx1.out 3; have t4 := freeOf hx1.out 4; have t5 := freeOf hx1.out 5; have t6 := freeOf hx1.out 6; have t7 := freeOf hx1.out 7)
              have hfw3 : Fr (fun _ => False) w w3 := (Fr.ofBelow HB.out).then hf3 (fun _ _ h => h)
              refine bodyPost_ret (v := .tuple #[markVv (parseMarkM c.cred).1 (.slice GA (parseMarkM c.cred).1.sys.groups.length gc), .bool true, .int .i64 0]) ?_ rfl ?_
              · simp [results, Tryz.results188, go_sem, markVv, s0, s1, s2, s3, s4, s5, s6, s7, hlt3]
              · rw [HR.out]
                refine ⟨(hfw3.set8 (by omega) _ _ _ _ _ _ _ _).alloc _, _, rfl, ?_⟩
                refine IntsNew.fr (S := fun _ => False) ((hI.earlier HB.out.size).set8 (b := w.heap.size + 1) (fun e => ?_) _ _ _ _ _ _ _ _) ((Fr.refl _ _).alloc _) (fun _ h => h.elim)
                have := (World.ownsRow.lt hI _ e).1
                simp at this
                omega
            · rw [if_neg (by simp [hw])] at hR
              have HR := Lib.hid hR
              have hw' := Int.not_le.1 hw
              clear hR hf0 hf1 hf2 hp hx hw
              go_enter Tryz.func188, Tryz.ntmps188
              go_wp2_with (go_at_call 241; refine (ParseMark_any c.cred _ HG2.out hs).mono ?_; rintro e w3 ⟨hf3, gv, rfl, hI⟩; obtain ⟨GA, gc, rfl⟩ := hI.slice; have hx1 := hidMove hx1 hf3 id; have hx0 := hidMove hx0 hf3 id; obtain ⟨s0, s1, s2, s3, s4, s5, s6, s7⟩ := box8 hx1; have d0 := cellOf hx0.out 0; simp at d0; have hlt0 : w.heap.size < w3.heap.size := lt_of_block hx0.out; unfold markVv; have hlt3 : w.heap.size + 1 < w3.heap.size := lt_of_block hx1.out; have t0 := freeOf hx1.out 0; have t1 := freeOf hx1.out 1; have t2 := freeOf hx1.out 2; have t3 := freeOf hx1.out 3; have t4 := freeOf hx1.out 4; have t5 := freeOf hx1.out 5; have t6 := freeOf hx1.out 6; have t7 := freeOf hx1.out 7)
              have hfw3 : Fr (fun _ => False) w w3 := (Fr.ofBelow HB.out).then hf3 (fun _ _ h => h)
              refine bodyPost_ret (v := .tuple #[markVv zeroMark (.slice none 0 0), .bool false, .int .i64 1]) ?_ rfl ?_
              · simp [results, Tryz.results188, go_sem, markVv, zeroMark, zeroSys, s0, s1, s2, s3, s4, s5, s6, s7, hlt3]
                rfl
              · rw [HR.out]
                exact ⟨((hfw3.set8 (by omega) _ _ _ _ _ _ _ _).alloc _), _, rfl, IntsNew.nil _ _⟩
          · rw [if_neg (by simp [hx])] at hR
            have hxb : (c.xid != (parseMarkM c.cred).1.seq) = true := by rw [bne_iff_ne]; exact hx
            have HR := Lib.hid hR
            clear hR hf0 hf1 hf2 hp hx
            go_enter Tryz.func188, Tryz.ntmps188
            go_wp2_with (go_at_call 241; refine (ParseMark_any c.cred _ HG2.out hs).mono ?_; rintro e w3 ⟨hf3, gv, rfl, hI⟩; obtain ⟨GA, gc, rfl⟩ := hI.slice; have hx1 := hidMove hx1 hf3 id; have hx0 := hidMove hx0 hf3 id; obtain ⟨s0, s1, s2, s3, s4, s5, s6, s7⟩ := box8 hx1; have d0 := cellOf hx0.out 0; simp at d0; have hlt0 : w.heap.size < w3.heap.size := lt_of_block hx0.out; unfold markVv; have hlt3 : w.heap.size + 1 < w3.heap.size := lt_of_block hx1.out; have t0 := freeOf hx1.out 0; have t1 := freeOf hx1.out 1; have t2 := freeOf hx1.out 2; have t3 := freeOf hx1.out 3; have t4 := freeOf hx1.out 4; have t5 := freeOf hx1.out 5; have t6 := freeOf hx1.out 6; have t7 := freeOf hx1.out 7)
            have hfw3 : Fr (fun _ => False) w w3 := (Fr.ofBelow HB.out).then hf3 (fun _ _ h => h)
            refine bodyPost_ret (v := .tuple #[markVv zeroMark (.slice none 0 0), .bool false, .int .i64 1]) ?_ rfl ?_
            · simp [results, Tryz.results188, go_sem, markVv, zeroMark, zeroSys, s0, s1, s2, s3, s4, s5, s6, s7, hlt3]
              rfl
            · rw [HR.out]
              exact ⟨((hfw3.set8 (by omega) _ _ _ _ _ _ _ _).alloc _), _, rfl, IntsNew.nil _ _⟩
        · rw [if_neg (by simp [hp])] at hR
          have hpb : ((parseMarkM c.cred).2 != 0) = true := by rw [bne_iff_ne]; exact hp
          have HR := Lib.hid hR
          clear hR hf0 hf1 hf2 hp
          go_enter Tryz.func188, Tryz.ntmps188
          go_wp2_with (go_at_call 241; refine (ParseMark_any c.cred _ HG2.out hs).mono ?_; rintro e w3 ⟨hf3, gv, rfl, hI⟩; obtain ⟨GA, gc, rfl⟩ := hI.slice; have hx1 := hidMove hx1 hf3 id; have hx0 := hidMove hx0 hf3 id; obtain ⟨s0, s1, s2, s3, s4, s5, s6, s7⟩ := box8 hx1; obtain ⟨d0, _⟩ := box10 hx0; unfold markVv; have hlt3 : w.heap.size + 1 < w3.heap.size := lt_of_block hx1.out; have t0 := freeOf hx1.out 0; have t1 := freeOf hx1.out 1; have t2 := freeOf hx1.out 2; have t3 := freeOf hx1.out 3; have t4 := freeOf hx1.out 4; have t5 := freeOf hx1.out 5; have t6 := freeOf hx1.out 6; have t7 := freeOf hx1.out 7)
          have hfw3 : Fr (fun _ => False) w w3 := (Fr.ofBelow HB.out).then hf3 (fun _ _ h => h)
          refine bodyPost_ret (v := .tuple #[markVv zeroMark (.slice none 0 0), .bool false, .int .i64 1]) ?_ rfl ?_
          · simp [results, Tryz.results188, go_sem, markVv, zeroMark, zeroSys, s0, s1, s2, s3, s4, s5, s6, s7, hlt3]
            rfl
          · rw [HR.out]
            exact ⟨((hfw3.set8 (by omega) _ _ _ _ _ _ _ _).alloc _), _, rfl, IntsNew.nil _ _⟩
      · have hb2 : (c.cred.flavor == 1296126539) = false := by rw [beq_eq_false_iff_ne]; exact hf2
        have hR : credM c = (zeroMark, false, 2) := by simp [credM, hf0, hf1, hf2]
        have HR := Lib.hid hR
        clear hR hf0 hf1 hf2
        go_enter Tryz.func188, Tryz.ntmps188
        go_wp2
        refine bodyPost_ret (v := .tuple #[markVv zeroMark (.slice none 0 0), .bool false, .int .i64 2]) ?_ rfl ?_
        · simp [results, Tryz.results188, go_sem, markVv, zeroMark, zeroSys]
          rfl
        · rw [HR.out]
          exact ⟨((Fr.refl _ _).alloc _).alloc _, _, rfl, IntsNew.nil _ _⟩

end Go.Proofs.YtbegjpmifcnieaaGreatDoor

/- Package cred: Judge, with the verifier. -/
namespace Go.Proofs.YtbegjpmifcnieaaGreatDoor
open Go.RowKit
set_option linter.unusedVariables false
set_option linter.unusedSimpArgs false

def judgeM (c : CallM) : MarkM × Bool × Int :=
  if (credM c).2.2 = 0 ∧ ¬ (c.verf.flavor = 0 ∧ c.verf.body.size = 0) then (zeroMark, false, 3) else credM c

set_option maxRecDepth 100000 in
set_option maxHeartbeats 1000000 in
theorem Judge_any (c : CallM) (w : World) (hg : ErrT w) (hs : c.cred.body.size ≤ 140737488351232) :
    Calls Tryz.prog 104 #[.agg (callCells c)] w fun r w' => Fr (fun _ => False) w w' ∧ ∃ gv, r = .returned (.tuple #[markVv (judgeM c).1 gv, .bool (judgeM c).2.1, .int .i64 (judgeM c).2.2]) ∧ IntsNew w w' gv (judgeM c).1.sys.groups := by
  have hx1 := Lib.hid (heap_two (w := w) (a := .cells (callCells c) 85) (b := .cells #[.int .i64 0, .int .i64 0, .int .i64 0, .int .i64 0, .string ByteArray.empty, .int .i64 0, .int .i64 0, .slice none 0 0] 132))
  have hx0 := Lib.hid (heap_old (o := .cells #[.int .i64 0, .int .i64 0, .int .i64 0, .int .i64 0, .string ByteArray.empty, .int .i64 0, .int .i64 0, .slice none 0 0] 132) (heap_alloc_new w (.cells (callCells c) 85)))
  have HB := Lib.hid ((((Below.refl _ _).alloc (Nat.le_refl _) _).alloc (by simp) _) : Below w.heap.size w ((w.alloc (.cells (callCells c) 85)).alloc (.cells #[.int .i64 0, .int .i64 0, .int .i64 0, .int .i64 0, .string ByteArray.empty, .int .i64 0, .int .i64 0, .slice none 0 0] 132)))
  have HC := Lib.hid (credential_any c _ (hg.below HB.out) hs)
  clear hg
  unfold callCells at *
  by_cases hw : (credM c).2.2 = 0
  · have hwb : ((credM c).2.2 == 0) = true := by rw [beq_iff_eq]; exact hw
    by_cases hv : c.verf.flavor = 0
    · have hvb : (c.verf.flavor == 0) = true := by rw [beq_iff_eq]; exact hv
      by_cases hb : c.verf.body.size = 0
      · have hR : judgeM c = credM c := by simp [judgeM, hv, hb]
        have he : c.verf.body.toList.isEmpty = true := by rw [isEmpty_size]; simp [hb]
        have HR := Lib.hid hR
        clear hR hw hv hb
        go_enter Tryz.func104, Tryz.ntmps104
        go_wp2_with (go_at_call 188; refine HC.out.mono ?_; rintro e w3 ⟨hf3, gv, rfl, hI⟩; obtain ⟨GA, gc, rfl⟩ := hI.slice; have hx1 := hidMove hx1 hf3 id; have hx0 := hidMove hx0 hf3 id; obtain ⟨s0, s1, s2, s3, s4, s5, s6, s7⟩ := box8 hx1; obtain ⟨d0, d1, d2, d3, d4, d5, d6, d7, d8, d9⟩ := box10 hx0; unfold markVv; have hlt3 : w.heap.size + 1 < w3.heap.size := lt_of_block hx1.out; have hlt0 : w.heap.size < w3.heap.size := lt_of_block hx0.out; have t0 := freeOf hx1.out 0; have t1 := freeOf hx1.out 1; have t2 := freeOf hx1.out 2; have t3 := freeOf hx1.out 3; have t4 := freeOf hx1.out 4; have t5 := freeOf hx1.out 5; have t6 := freeOf hx1.out 6; have t7 := freeOf hx1.out 7)
        have hfw3 : Fr (fun _ => False) w w3 := (Fr.ofBelow HB.out).then hf3 (fun _ _ h => h)
        refine bodyPost_ret (v := .tuple #[markVv (credM c).1 (.slice GA (credM c).1.sys.groups.length gc), .bool (credM c).2.1, .int .i64 (credM c).2.2]) ?_ rfl ?_
        · simp [results, Tryz.results104, go_sem, markVv, s0, s1, s2, s3, s4, s5, s6, s7, hlt3]
        · rw [HR.out]
          refine ⟨(hfw3.set8 (by omega) _ _ _ _ _ _ _ _).alloc _, _, rfl, ?_⟩
          refine IntsNew.fr (S := fun _ => False) ((hI.earlier HB.out.size).set8 (b := w.heap.size + 1) (fun e => ?_) _ _ _ _ _ _ _ _) ((Fr.refl _ _).alloc _) (fun _ h => h.elim)
          have := (World.ownsRow.lt hI _ e).1
          simp at this
          omega
      · have hR : judgeM c = (zeroMark, false, 3) := by simp [judgeM, hw, hb]
        have he : c.verf.body.toList.isEmpty = false := by rw [isEmpty_size]; simp [hb]
        have HR := Lib.hid hR
        clear hR hw hv hb
        go_enter Tryz.func104, Tryz.ntmps104
        go_wp2_with (go_at_call 188; refine HC.out.mono ?_; rintro e w3 ⟨hf3, gv, rfl, hI⟩; obtain ⟨GA, gc, rfl⟩ := hI.slice; have hx1 := hidMove hx1 hf3 id; have hx0 := hidMove hx0 hf3 id; obtain ⟨s0, s1, s2, s3, s4, s5, s6, s7⟩ := box8 hx1; obtain ⟨d0, d1, d2, d3, d4, d5, d6, d7, d8, d9⟩ := box10 hx0; unfold markVv; have hlt3 : w.heap.size + 1 < w3.heap.size := lt_of_block hx1.out; have hlt0 : w.heap.size < w3.heap.size := lt_of_block hx0.out; have t0 := freeOf hx1.out 0; have t1 := freeOf hx1.out 1; have t2 := freeOf hx1.out 2; have t3 := freeOf hx1.out 3; have t4 := freeOf hx1.out 4; have t5 := freeOf hx1.out 5; have t6 := freeOf hx1.out 6; have t7 := freeOf hx1.out 7)
        have hfw3 : Fr (fun _ => False) w w3 := (Fr.ofBelow HB.out).then hf3 (fun _ _ h => h)
        refine bodyPost_ret (v := .tuple #[markVv zeroMark (.slice none 0 0), .bool false, .int .i64 3]) ?_ rfl ?_
        · simp [results, Tryz.results104, go_sem, markVv, zeroMark, zeroSys, s0, s1, s2, s3, s4, s5, s6, s7, hlt3]
          rfl
        · rw [HR.out]
          exact ⟨((hfw3.set8 (by omega) _ _ _ _ _ _ _ _).alloc _), _, rfl, IntsNew.nil _ _⟩
    · have hvb : (c.verf.flavor == 0) = false := by rw [beq_eq_false_iff_ne]; exact hv
      have hR : judgeM c = (zeroMark, false, 3) := by simp [judgeM, hw, hv]
      have HR := Lib.hid hR
      clear hR hw hv
      go_enter Tryz.func104, Tryz.ntmps104
      go_wp2_with (go_at_call 188; refine HC.out.mono ?_; rintro e w3 ⟨hf3, gv, rfl, hI⟩; obtain ⟨GA, gc, rfl⟩ := hI.slice; have hx1 := hidMove hx1 hf3 id; have hx0 := hidMove hx0 hf3 id; obtain ⟨s0, s1, s2, s3, s4, s5, s6, s7⟩ := box8 hx1; obtain ⟨d0, d1, d2, d3, d4, d5, d6, d7, d8, d9⟩ := box10 hx0; unfold markVv; have hlt3 : w.heap.size + 1 < w3.heap.size := lt_of_block hx1.out; have hlt0 : w.heap.size < w3.heap.size := lt_of_block hx0.out; have t0 := freeOf hx1.out 0; have t1 := freeOf hx1.out 1; have t2 := freeOf hx1.out 2; have t3 := freeOf hx1.out 3; have t4 := freeOf hx1.out 4; have t5 := freeOf hx1.out 5; have t6 := freeOf hx1.out 6; have t7 := freeOf hx1.out 7)
      have hfw3 : Fr (fun _ => False) w w3 := (Fr.ofBelow HB.out).then hf3 (fun _ _ h => h)
      refine bodyPost_ret (v := .tuple #[markVv zeroMark (.slice none 0 0), .bool false, .int .i64 3]) ?_ rfl ?_
      · simp [results, Tryz.results104, go_sem, markVv, zeroMark, zeroSys, s0, s1, s2, s3, s4, s5, s6, s7, hlt3]
        rfl
      · rw [HR.out]
        exact ⟨((hfw3.set8 (by omega) _ _ _ _ _ _ _ _).alloc _), _, rfl, IntsNew.nil _ _⟩
  · have hwb : ((credM c).2.2 == 0) = false := by rw [beq_eq_false_iff_ne]; exact hw
    have hR : judgeM c = credM c := by simp [judgeM, hw]
    have HR := Lib.hid hR
    clear hR hw
    go_enter Tryz.func104, Tryz.ntmps104
    go_wp2_with (go_at_call 188; refine HC.out.mono ?_; rintro e w3 ⟨hf3, gv, rfl, hI⟩; obtain ⟨GA, gc, rfl⟩ := hI.slice; have hx1 := hidMove hx1 hf3 id; have hx0 := hidMove hx0 hf3 id; obtain ⟨s0, s1, s2, s3, s4, s5, s6, s7⟩ := box8 hx1; obtain ⟨d0, d1, d2, d3, d4, d5, d6, d7, d8, d9⟩ := box10 hx0; unfold markVv; have hlt3 : w.heap.size + 1 < w3.heap.size := lt_of_block hx1.out; have hlt0 : w.heap.size < w3.heap.size := lt_of_block hx0.out; have t0 := freeOf hx1.out 0; have t1 := freeOf hx1.out 1; have t2 := freeOf hx1.out 2; have t3 := freeOf hx1.out 3; have t4 := freeOf hx1.out 4; have t5 := freeOf hx1.out 5; have t6 := freeOf hx1.out 6; have t7 := freeOf hx1.out 7)
    have hfw3 : Fr (fun _ => False) w w3 := (Fr.ofBelow HB.out).then hf3 (fun _ _ h => h)
    refine bodyPost_ret (v := .tuple #[markVv (credM c).1 (.slice GA (credM c).1.sys.groups.length gc), .bool (credM c).2.1, .int .i64 (credM c).2.2]) ?_ rfl ?_
    · simp [results, Tryz.results104, go_sem, markVv, s0, s1, s2, s3, s4, s5, s6, s7, hlt3]
    · rw [HR.out]
      refine ⟨(hfw3.set8 (by omega) _ _ _ _ _ _ _ _).alloc _, _, rfl, ?_⟩
      refine IntsNew.fr (S := fun _ => False) ((hI.earlier HB.out.size).set8 (b := w.heap.size + 1) (fun e => ?_) _ _ _ _ _ _ _ _) ((Fr.refl _ _).alloc _) (fun _ h => h.elim)
      have := (World.ownsRow.lt hI _ e).1
      simp at this
      omega

end Go.Proofs.YtbegjpmifcnieaaGreatDoor
