/- Package cred: ParseMark. -/
import Derived.Test.YtcndifccbkekhaaGreatDoorPs
import Derived.Test.YtcndifccbkekhaaGreatDoorCm
namespace Go.Proofs.YtcndifccbkekhaaGreatDoor
open Go.RowKit
set_option linter.unusedVariables false
set_option linter.unusedSimpArgs false

def st1 (a : AuthM) : RSt := (RSt.mk a.body 0).hyper
def st2 (a : AuthM) : RSt := (st1 a).hyper
def st3 (a : AuthM) : RSt := (st2 a).hyper
def markOf (a : AuthM) : MarkM := ⟨(RSt.mk a.body 0).hyperV, (st1 a).hyperV, (st2 a).hyperV, (st3 a).sysV⟩
def zeroMark : MarkM := ⟨0, 0, 0, zeroSys⟩
def parseMarkM (a : AuthM) : MarkM × Int :=
  if a.flavor = 1296126539 then (if (st3 a).sysS.doneV = 0 ∧ mayB (markOf a) = true then (markOf a, 0) else (zeroMark, 111)) else (zeroMark, 112)
def markVv (m : MarkM) (gv : Value) : Value := .agg #[.int .i64 m.inst, .int .i64 m.seq, .int .i64 m.water, .int .i64 m.sys.stamp, .string m.sys.machine, .int .i64 m.sys.user, .int .i64 m.sys.group, gv]

theorem ownsRow_set8 {w : World} {base e size n b : Nat} {v : Value} {xs : List Value} (h : w.ownsRow base e size v n xs) (hb : v.ownBlock ≠ some b) (u0 u1 u2 u3 u4 u5 u6 u7 : Value) :
    ((((((((w.setCell ⟨b, 0, none⟩ u0).setCell ⟨b, 1, none⟩ u1).setCell ⟨b, 2, none⟩ u2).setCell ⟨b, 3, none⟩ u3).setCell ⟨b, 4, none⟩ u4).setCell ⟨b, 5, none⟩ u5).setCell ⟨b, 6, none⟩ u6).setCell ⟨b, 7, none⟩ u7).ownsRow base e size v n xs :=
  ownsRow_setCell_other (ownsRow_setCell_other (ownsRow_setCell_other (ownsRow_set5 h hb u0 u1 u2 u3 u4) hb u5) hb u6) hb u7
theorem Fr.set8 {w w' : World} (h : Fr (fun _ => False) w w') {b : Nat} (hb : w.heap.size ≤ b) (u0 u1 u2 u3 u4 u5 u6 u7 : Value) :
    Fr (fun _ => False) w ((((((((w'.setCell ⟨b, 0, none⟩ u0).setCell ⟨b, 1, none⟩ u1).setCell ⟨b, 2, none⟩ u2).setCell ⟨b, 3, none⟩ u3).setCell ⟨b, 4, none⟩ u4).setCell ⟨b, 5, none⟩ u5).setCell ⟨b, 6, none⟩ u6).setCell ⟨b, 7, none⟩ u7) :=
  (((((((h.setCell (.inr hb) _).setCell (.inr hb) _).setCell (.inr hb) _).setCell (.inr hb) _).setCell (.inr hb) _).setCell (.inr hb) _).setCell (.inr hb) _).setCell (.inr hb) _

set_option maxRecDepth 100000 in
set_option maxHeartbeats 4000000 in
theorem ParseMark_any (a : AuthM) (w : World) (hg : ErrT w) (hs : a.body.size ≤ 140737488351232) :
    Calls Tryz.prog 27 #[authV a] w fun r w' => Fr (fun _ => False) w w' ∧ ∃ gv, r = .returned (.tuple #[markVv (parseMarkM a).1 gv, .int .i64 (parseMarkM a).2]) ∧ IntsNew w w' gv (parseMarkM a).1.sys.groups := by
  have HG := Lib.hid hg
  have hx1 := Lib.hid (heap_two (w := w) (a := .cells #[.int .i64 a.flavor, .string a.body] 23) (b := .cells #[.int .i64 0, .int .i64 0, .int .i64 0, .int .i64 0, .string ByteArray.empty, .int .i64 0, .int .i64 0, .slice none 0 0] 38))
  clear hg
  unfold authV
  by_cases hf : a.flavor = 1296126539
  · have hb : (a.flavor != 1296126539) = false := by rw [bne_eq_false_iff_eq]; exact hf
    have hP : parseMarkM a = if (st3 a).sysS.doneV = 0 ∧ mayB (markOf a) = true then (markOf a, 0) else (zeroMark, 111) := if_pos hf
    have HP := Lib.hid hP
    clear hP hf
    have HB := Lib.hid ((((Below.refl _ _).alloc (Nat.le_refl _) _).alloc (by simp) _) : Below w.heap.size w ((w.alloc (.cells #[.int .i64 a.flavor, .string a.body] 23)).alloc (.cells #[.int .i64 0, .int .i64 0, .int .i64 0, .int .i64 0, .string ByteArray.empty, .int .i64 0, .int .i64 0, .slice none 0 0] 38)))
    go_enter Tryz.func27, Tryz.ntmps27
    go_wp2_with fail
    refine (RNew_any _ _ hs).mono ?_
    rintro e w1 ⟨rfl, hf1, hR⟩
    have hx1 := hidMove hx1 hf1 id
    have hz1 := hf1.size
    simp only [World.size_alloc] at hR hz1
    have hls := hR.lt
    have hfw1 := (Fr.ofBelow (S := fun _ => False) HB.out).then hf1 (fun _ _ h => h)
    go_wp2_with fail
    refine (RHyper_any _ hR).mono ?_
    rintro e w2 ⟨rfl, hf2, hs2, hR2⟩
    have hx1 := hidMove hx1 hf2 (by omega)
    have hfw2 := hfw1.then hf2 (fun i hi h => by omega)
    clear hs2
    go_wp2_with fail
    refine (RHyper_any _ hR2).mono ?_
    rintro e w3 ⟨rfl, hf3, hs3, hR3⟩
    have hx1 := hidMove hx1 hf3 (by omega)
    have hfw3 := hfw2.then hf3 (fun i hi h => by omega)
    clear hs3
    go_wp2_with fail
    refine (RHyper_any _ hR3).mono ?_
    rintro e w4 ⟨rfl, hf4, hs4, hR4⟩
    have hx1 := hidMove hx1 hf4 (by omega)
    have hfw4 := hfw3.then hf4 (fun i hi h => by omega)
    clear hs4
    have hlb4 := hR4.lt
    have hx0 := Lib.hid (heap_alloc_new w4 (.cells #[.int .i64 0, .string ByteArray.empty, .int .i64 0, .int .i64 0, .slice none 0 0, .int .i64 (markOf a).inst, .int .i64 (markOf a).seq, .int .i64 (markOf a).water] 107))
    have hR5 : Rd (w4.alloc (.cells #[.int .i64 0, .string ByteArray.empty, .int .i64 0, .int .i64 0, .slice none 0 0, .int .i64 (markOf a).inst, .int .i64 (markOf a).seq, .int .i64 (markOf a).water] 107)) (w.heap.size + 1 + 1) (st3 a) := hR4.keep (Below.heap_alloc _ _ _ hR4.lt)
    have hx1 : Hid ((w4.alloc (.cells #[.int .i64 0, .string ByteArray.empty, .int .i64 0, .int .i64 0, .slice none 0 0, .int .i64 (markOf a).inst, .int .i64 (markOf a).seq, .int .i64 (markOf a).water] 107)).heap[w.heap.size + 1]? = _) := Lib.hid (heap_old hx1.out)
    have e1 : (RSt.mk a.body 0).hyperV = (markOf a).inst := rfl
    have e2 : (RSt.mk a.body 0).hyper.hyperV = (markOf a).seq := rfl
    have e3 : (RSt.mk a.body 0).hyper.hyper.hyperV = (markOf a).water := rfl
    rw [e3]
    clear e3
    go_wp2_with fail
    clear e1 e2
    refine (reads_any (T := 107) [.int .i64 (markOf a).inst, .int .i64 (markOf a).seq, .int .i64 (markOf a).water] _ hR5 hx0.out (by omega)).mono ?_
    rintro e w5 ⟨rfl, hf5, hR5, gv, hN, hO⟩
    have hx1 := hidMove hx1 hf5 (by omega)
    obtain ⟨GA, gc, rfl⟩ := owns_slice hO
    have hfw5 : Fr (fun _ => False) w w5 := (hfw4.alloc _).then hf5 (fun i hi h => by omega)
    have HG5 := Lib.hid (HG.out.fr hfw5 id)
    have HN := Lib.hid hN
    have HO := Lib.hid hO
    clear hN hO
    go_wp2_with fail
    refine (RDone_any _ hR5 HG5.out).mono ?_
    rintro e w6 ⟨rfl, hf6⟩
    have hx1 := hidMove hx1 hf6 id
    have HN6 := Lib.hid (HN.out.fr hf6 id)
    have hfw6 := hfw5.then hf6 (fun _ _ h => h)
    have hO6 : w6.ownsRow _ 3 1 (.slice GA (markOf a).sys.groups.length gc) _ ((markOf a).sys.groups.map (Value.int .i64)) := ownsRow_keep HO.out (fun g e => hf6.block g (HO.out.lt g e).2 id)
    have HA6 := Lib.hid (IntsAt.ofRow hO6)
    have HO6 := Lib.hid hO6
    clear hO6
    obtain ⟨q0, q1, q2, q3, q4, q5, q6, q7⟩ := box8 HN6
    by_cases hd : (st3 a).sysS.doneV = 0
    · have hd1 : ((st3 a).sysS.doneV != 0) = false := by rw [hd]; rfl
      have HD := Lib.hid hd
      clear hd
      by_cases hn : mayB (markOf a) = true
      · go_wp2_with (go_at_call 64; refine (may_any (markOf a) GA gc _ HA6.out).mono ?_; rintro e w7 ⟨rfl, hf7⟩; have HN7 := Lib.hid (HN6.out.fr hf7 id); have hx1 := hidMove hx1 hf7 id; obtain ⟨m0, m1, m2, m3, m4, m5, m6, m7⟩ := box8 HN7; obtain ⟨s0, s1, s2, s3, s4, s5, s6, s7⟩ := box8 hx1; have t0 := freeOf hx1.out 0; have t1 := freeOf hx1.out 1; have t2 := freeOf hx1.out 2; have t3 := freeOf hx1.out 3; have t4 := freeOf hx1.out 4; have t5 := freeOf hx1.out 5; have t6 := freeOf hx1.out 6; have t7 := freeOf hx1.out 7)
        have hd := HD.out
        have hfw7 := hfw6.then hf7 (fun _ _ h => h)
        have hO7 : w7.ownsRow _ 3 1 (.slice GA (markOf a).sys.groups.length gc) _ ((markOf a).sys.groups.map (Value.int .i64)) := ownsRow_keep HO6.out (fun g e => hf7.block g (HO6.out.lt g e).2 id)
        have hz4 : w.heap.size + 3 ≤ w4.heap.size := by omega
        refine bodyPost_ret (v := .tuple #[markVv (markOf a) (.slice GA (markOf a).sys.groups.length gc), .int .i64 0]) ?_ rfl ?_
        · simp [results, Tryz.results27, go_sem, markVv, s0, s1, s2, s3, s4, s5, s6, s7]
          exact ⟨rfl, rfl, rfl, rfl, rfl⟩
        · rw [HP.out, if_pos ⟨hd, hn⟩]
          refine ⟨hfw7.set8 (by omega) _ _ _ _ _ _ _ _, _, rfl, ?_⟩
          unfold IntsNew
          refine ownsRow_set8 (ownsRow_lower hO7 (by simp; omega)) (fun e => ?_) _ _ _ _ _ _ _ _
          have := (hO7.lt _ e).1
          simp at this
          omega
      · have hn' := hn
        rw [Bool.not_eq_true] at hn
        go_wp2_with (go_at_call 64; refine (may_any (markOf a) GA gc _ HA6.out).mono ?_; rintro e w7 ⟨rfl, hf7⟩; have hx1 := hidMove hx1 hf7 id; obtain ⟨s0, s1, s2, s3, s4, s5, s6, s7⟩ := box8 hx1; have t0 := freeOf hx1.out 0; have t1 := freeOf hx1.out 1; have t2 := freeOf hx1.out 2; have t3 := freeOf hx1.out 3; have t4 := freeOf hx1.out 4; have t5 := freeOf hx1.out 5; have t6 := freeOf hx1.out 6; have t7 := freeOf hx1.out 7)
        have hd := HD.out
        have hfw7 := hfw6.then hf7 (fun _ _ h => h)
        refine bodyPost_ret (v := .tuple #[markVv zeroMark (.slice none 0 0), .int .i64 111]) ?_ rfl ?_
        · simp [results, Tryz.results27, go_sem, markVv, zeroMark, zeroSys, s0, s1, s2, s3, s4, s5, s6, s7]
          rfl
        · rw [HP.out, if_neg (by simp [hd, hn])]
          exact ⟨hfw7.set8 (by omega) _ _ _ _ _ _ _ _, _, rfl, World.ownsRow_nil _ _ _ _⟩
    · have hd1 : ((st3 a).sysS.doneV != 0) = true := by rw [bne_iff_ne]; exact hd
      obtain ⟨s0, s1, s2, s3, s4, s5, s6, s7⟩ := box8 hx1
      have t0 := freeOf hx1.out 0
      have t1 := freeOf hx1.out 1
      have t2 := freeOf hx1.out 2
      have t3 := freeOf hx1.out 3
      have t4 := freeOf hx1.out 4
      have t5 := freeOf hx1.out 5
      have t6 := freeOf hx1.out 6
      have t7 := freeOf hx1.out 7
      have HD := Lib.hid hd
      clear hd
      go_wp2
      have hd := HD.out
      refine bodyPost_ret (v := .tuple #[markVv zeroMark (.slice none 0 0), .int .i64 111]) ?_ rfl ?_
      · simp [results, Tryz.results27, go_sem, markVv, zeroMark, zeroSys, s0, s1, s2, s3, s4, s5, s6, s7]
        rfl
      · rw [HP.out, if_neg (by simp [hd])]
        exact ⟨hfw6.set8 (by omega) _ _ _ _ _ _ _ _, _, rfl, World.ownsRow_nil _ _ _ _⟩
  · have hb : (a.flavor != 1296126539) = true := by rw [bne_iff_ne]; exact hf
    rw [show parseMarkM a = (zeroMark, 112) from if_neg hf]
    clear hf
    go_enter Tryz.func27, Tryz.ntmps27
    go_wp2
    refine bodyPost_ret (v := .tuple #[markVv zeroMark (.slice none 0 0), .int .i64 112]) ?_ rfl ⟨?_, _, rfl, World.ownsRow_nil _ _ _ _⟩
    · simp [results, Tryz.results27, go_sem, markVv, zeroMark, zeroSys]
      rfl
    · exact ((Fr.refl _ _).alloc _).alloc _

end Go.Proofs.YtcndifccbkekhaaGreatDoor
