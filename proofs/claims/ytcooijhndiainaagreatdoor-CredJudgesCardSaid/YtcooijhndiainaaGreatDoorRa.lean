/- The document's credentials (callboxref11): ParseMark. -/
import Derived.Test.YtcooijhndiainaaGreatDoorR9
import Derived.Test.YtcooijhndiainaaGreatDoorR7
import Derived.Test.YtcooijhndiainaaGreatDoorJd
namespace Go.Proofs.YtcooijhndiainaaGreatDoor
open Go.RowKit

theorem frees8 {w : World} {b t : Nat} {v0 v1 v2 v3 v4 v5 v6 v7 : Value} (h : Hid (w.heap[b]? = some (.cells #[v0, v1, v2, v3, v4, v5, v6, v7] t (0, 0)))) :
    w.frozen? ⟨b, 0, none⟩ = false ∧ w.frozen? ⟨b, 1, none⟩ = false ∧ w.frozen? ⟨b, 2, none⟩ = false ∧ w.frozen? ⟨b, 3, none⟩ = false ∧ w.frozen? ⟨b, 4, none⟩ = false ∧ w.frozen? ⟨b, 5, none⟩ = false ∧ w.frozen? ⟨b, 6, none⟩ = false ∧ w.frozen? ⟨b, 7, none⟩ = false :=
  ⟨freeOf h.out 0, freeOf h.out 1, freeOf h.out 2, freeOf h.out 3, freeOf h.out 4, freeOf h.out 5, freeOf h.out 6, freeOf h.out 7⟩
theorem hidSet {w : World} {b : Nat} {c : Array Value} {t : TypeId} (h : Hid (w.heap[b]? = some (.cells c t (0, 0)))) (i : Nat) (v : Value) : Hid ((w.setCell ⟨b, i, none⟩ v).heap[b]? = some (.cells (c.setIfInBounds i v) t (0, 0))) := Lib.hid (setOf' h.out i v)
theorem hidOther {w : World} {b b' : Nat} {o : Obj} (h : Hid (w.heap[b]? = some o)) (hb : b ≠ b') (i : Nat) (v : Value) : Hid ((w.setCell ⟨b', i, none⟩ v).heap[b]? = some o) := Lib.hid ((Below.heap_setCell _ _ _ _ hb).trans h.out)
theorem RRd.set' {w : World} {b b' : Nat} {st : RSt} (h : RRd w b st) (hb : b ≠ b') (i : Nat) (v : Value) : RRd (w.setCell ⟨b', i, none⟩ v) b st := h.keep (Below.heap_setCell _ _ _ _ hb)

/-- five cells laid, from the fourth on. -/
def five (w : World) (b : Nat) (v3 v4 v5 v6 v7 : Value) : World := ((((w.setCell ⟨b, 3, none⟩ v3).setCell ⟨b, 4, none⟩ v4).setCell ⟨b, 5, none⟩ v5).setCell ⟨b, 6, none⟩ v6).setCell ⟨b, 7, none⟩ v7
theorem five_other {w : World} {b b' : Nat} {v3 v4 v5 v6 v7 : Value} (hb : b ≠ b') : (five w b' v3 v4 v5 v6 v7).heap[b]? = w.heap[b]? := by
  unfold five
  rw [Below.heap_setCell _ _ _ _ hb, Below.heap_setCell _ _ _ _ hb, Below.heap_setCell _ _ _ _ hb, Below.heap_setCell _ _ _ _ hb, Below.heap_setCell _ _ _ _ hb]
theorem five_fr {w0 w : World} {b : Nat} {v3 v4 v5 v6 v7 : Value} (h : Fr (fun _ => False) w0 w) (hb : w0.heap.size ≤ b) : Fr (fun _ => False) w0 (five w b v3 v4 v5 v6 v7) :=
  ((((h.setCell (.inr hb) _).setCell (.inr hb) _).setCell (.inr hb) _).setCell (.inr hb) _).setCell (.inr hb) _
theorem five_self {w : World} {b t : Nat} {u0 u1 u2 u3 u4 u5 u6 u7 v3 v4 v5 v6 v7 : Value} (h : Hid (w.heap[b]? = some (.cells #[u0, u1, u2, u3, u4, u5, u6, u7] t (0, 0)))) :
    Hid ((five w b v3 v4 v5 v6 v7).heap[b]? = some (.cells #[u0, u1, u2, v3, v4, v5, v6, v7] t (0, 0))) :=
  hidSet (hidSet (hidSet (hidSet (hidSet h 3 v3) 4 v4) 5 v5) 6 v6) 7 v7

set_option maxRecDepth 100000 in
set_option maxHeartbeats 8000000 in
theorem rParseMark_any (a : AuthM) (w : World) (hs : a.body.size ≤ 1099511627776) :
    Calls Tryz.prog 23 #[.agg #[.int .i64 a.flavor, .string a.body]] w fun r w' => Fr (fun _ => False) w w' ∧ ∃ gv, r = .returned (.tuple #[markVv (parseMarkM a).1 gv, .int .i64 (parseMarkM a).2]) ∧ IntsNew w w' gv (parseMarkM a).1.sys.groups := by
  have hx1 := Lib.hid (heap_two (w := w) (a := .cells #[.int .i64 a.flavor, .string a.body] 32) (b := .cells #[.int .i64 0, .int .i64 0, .int .i64 0, .int .i64 0, .string ByteArray.empty, .int .i64 0, .int .i64 0, .slice none 0 0] 26))
  have HB := Lib.hid (((Below.refl _ _).alloc (Nat.le_refl _) _).alloc (by simp) _ : Below w.heap.size w ((w.alloc (.cells #[.int .i64 a.flavor, .string a.body] 32)).alloc (.cells #[.int .i64 0, .int .i64 0, .int .i64 0, .int .i64 0, .string ByteArray.empty, .int .i64 0, .int .i64 0, .slice none 0 0] 26)))
  by_cases hf : a.flavor = 1296126539
  · have hb : (a.flavor != 1296126539) = false := by rw [bne_eq_false_iff_eq]; exact hf
    have hP : parseMarkM a = if (st3 a).sysS.doneV = 0 ∧ mayB (markOf a) = true then (markOf a, 0) else (zeroMark, 111) := if_pos hf
    have HP := Lib.hid hP
    clear hP hf
    go_enter Tryz.func23, Tryz.ntmps23
    go_wp2_with fail
    refine (rRNew_any _ _ hs).mono ?_
    rintro e w1 ⟨rfl, hf1, hR⟩
    have hx1 := hidMove hx1 hf1 id
    have hz1 := hf1.size
    simp only [World.size_alloc] at hR hz1
    have hlr := hR.lt
    have hRa : RRd (w1.alloc (.cells #[.int .i64 0, .int .i64 0, .int .i64 0, .int .i64 0, .string ByteArray.empty, .int .i64 0, .int .i64 0, .slice none 0 0] 26)) (w.heap.size + 1 + 1) ⟨a.body, 0⟩ := hR.keep (Below.heap_alloc _ _ _ hR.lt)
    have hxm := Lib.hid (heap_alloc_new w1 (.cells #[.int .i64 0, .int .i64 0, .int .i64 0, .int .i64 0, .string ByteArray.empty, .int .i64 0, .int .i64 0, .slice none 0 0] 26))
    have hx1 := Lib.hid (heap_old (o := .cells #[.int .i64 0, .int .i64 0, .int .i64 0, .int .i64 0, .string ByteArray.empty, .int .i64 0, .int .i64 0, .slice none 0 0] 26) hx1.out)
    have hfw : Fr (fun _ => False) w (w1.alloc (.cells #[.int .i64 0, .int .i64 0, .int .i64 0, .int .i64 0, .string ByteArray.empty, .int .i64 0, .int .i64 0, .slice none 0 0] 26)) := ((Fr.ofBelow HB.out).then hf1 (fun _ _ h => h)).alloc _
    have hne : w1.heap.size ≠ w.heap.size + 1 + 1 := by omega
    have hne1 : ¬ w.heap.size + 1 = w.heap.size + 1 + 1 := by omega
    have hne2 : w.heap.size + 1 ≠ w1.heap.size := by omega
    clear hf1 hR HB
    go_wp2_with fail
    refine (rRHyper_any _ hRa).mono ?_
    rintro e w2 ⟨rfl, hf2, hR2⟩
    have hx1 := hidMove hx1 hf2 hne1
    have hxm := hidMove hxm hf2 hne
    have hfw := hfw.then hf2 (fun i hi h => by omega)
    clear hf2 hRa
    obtain ⟨m0, m1, m2, m3, m4, m5, m6, m7⟩ := box8 hxm
    obtain ⟨g0, g1, g2, g3, g4, g5, g6, g7⟩ := frees8 hxm
    go_wp2_with fail
    have hx1 := hidOther hx1 hne2 0 (.int .i64 (markOf a).inst)
    have hxm : Hid (_ = some (Obj.cells #[.int .i64 (markOf a).inst, .int .i64 0, .int .i64 0, .int .i64 0, .string ByteArray.empty, .int .i64 0, .int .i64 0, .slice none 0 0] 26 (0, 0))) := hidSet hxm 0 (.int .i64 (markOf a).inst)
    have hR2 : RRd (w2.setCell ⟨w1.heap.size, 0, none⟩ (.int .i64 (markOf a).inst)) (w.heap.size + 1 + 1) (st1 a) := hR2.set' (by omega) _ _
    have hfw := hfw.setCell (p := ⟨w1.heap.size, 0, none⟩) (.inr (by show _ ≤ w1.heap.size; omega)) (.int .i64 (markOf a).inst)
    clear m0 m1 m2 m3 m4 m5 m6 m7 g0 g1 g2 g3 g4 g5 g6 g7
    show Calls _ _ _ (w2.setCell _ (.int .i64 (markOf a).inst)) _
    generalize w2.setCell _ _ = W2 at *
    refine (rRHyper_any _ hR2).mono ?_
    rintro e w3 ⟨rfl, hf2, hR3⟩
    have hx1 := hidMove hx1 hf2 hne1
    have hxm := hidMove hxm hf2 hne
    have hfw := hfw.then hf2 (fun i hi h => by omega)
    clear hf2 hR2
    obtain ⟨m0, m1, m2, m3, m4, m5, m6, m7⟩ := box8 hxm
    obtain ⟨g0, g1, g2, g3, g4, g5, g6, g7⟩ := frees8 hxm
    go_wp2_with fail
    have hx1 := hidOther hx1 hne2 1 (.int .i64 (markOf a).seq)
    have hxm : Hid (_ = some (Obj.cells #[.int .i64 (markOf a).inst, .int .i64 (markOf a).seq, .int .i64 0, .int .i64 0, .string ByteArray.empty, .int .i64 0, .int .i64 0, .slice none 0 0] 26 (0, 0))) := hidSet hxm 1 (.int .i64 (markOf a).seq)
    have hR3 : RRd (w3.setCell ⟨w1.heap.size, 1, none⟩ (.int .i64 (markOf a).seq)) (w.heap.size + 1 + 1) (st2 a) := hR3.set' (by omega) _ _
    have hfw := hfw.setCell (p := ⟨w1.heap.size, 1, none⟩) (.inr (by show _ ≤ w1.heap.size; omega)) (.int .i64 (markOf a).seq)
    clear m0 m1 m2 m3 m4 m5 m6 m7 g0 g1 g2 g3 g4 g5 g6 g7
    show Calls _ _ _ (w3.setCell _ (.int .i64 (markOf a).seq)) _
    generalize w3.setCell _ _ = W3 at *
    refine (rRHyper_any _ hR3).mono ?_
    rintro e w4 ⟨rfl, hf2, hR4⟩
    have hx1 := hidMove hx1 hf2 hne1
    have hxm := hidMove hxm hf2 hne
    have hfw := hfw.then hf2 (fun i hi h => by omega)
    clear hf2 hR3
    obtain ⟨m0, m1, m2, m3, m4, m5, m6, m7⟩ := box8 hxm
    obtain ⟨g0, g1, g2, g3, g4, g5, g6, g7⟩ := frees8 hxm
    go_wp2_with fail
    have hx1 := hidOther hx1 hne2 2 (.int .i64 (markOf a).water)
    have hxm : Hid (_ = some (Obj.cells #[.int .i64 (markOf a).inst, .int .i64 (markOf a).seq, .int .i64 (markOf a).water, .int .i64 0, .string ByteArray.empty, .int .i64 0, .int .i64 0, .slice none 0 0] 26 (0, 0))) := hidSet hxm 2 (.int .i64 (markOf a).water)
    have hR4 : RRd (w4.setCell ⟨w1.heap.size, 2, none⟩ (.int .i64 (markOf a).water)) (w.heap.size + 1 + 1) (st3 a) := hR4.set' (by omega) _ _
    have hfw := hfw.setCell (p := ⟨w1.heap.size, 2, none⟩) (.inr (by show _ ≤ w1.heap.size; omega)) (.int .i64 (markOf a).water)
    clear m0 m1 m2 m3 m4 m5 m6 m7 g0 g1 g2 g3 g4 g5 g6 g7
    show Calls _ _ _ (w4.setCell _ (.int .i64 (markOf a).water)) _
    generalize w4.setCell _ _ = W4 at *
    have hzm : w1.heap.size < W4.heap.size := lt_of_block hxm.out
    refine (rreads_any _ hR4).mono ?_
    rintro e w5 ⟨hf2, hR5, gv, rfl, hO⟩
    have hx1 := hidMove hx1 hf2 hne1
    have hxm := hidMove hxm hf2 hne
    have hfw := hfw.then hf2 (fun i hi h => by omega)
    clear hf2 hR4
    obtain ⟨m0, m1, m2, m3, m4, m5, m6, m7⟩ := box8 hxm
    obtain ⟨g0, g1, g2, g3, g4, g5, g6, g7⟩ := frees8 hxm
    obtain ⟨GA, gc, rfl⟩ := owns_slice hO
    have HO := Lib.hid hO
    clear hO
    go_wp2_with fail
    have hx1 := Lib.hid ((five_other (v3 := .int .i64 (st3 a).sysV.stamp) (v4 := .string (st3 a).sysV.machine) (v5 := .int .i64 (st3 a).sysV.user) (v6 := .int .i64 (st3 a).sysV.group) (v7 := .slice GA (st3 a).sysV.groups.length gc) hne2).trans hx1.out)
    have hxm := five_self (v3 := .int .i64 (st3 a).sysV.stamp) (v4 := .string (st3 a).sysV.machine) (v5 := .int .i64 (st3 a).sysV.user) (v6 := .int .i64 (st3 a).sysV.group) (v7 := .slice GA (st3 a).sysV.groups.length gc) hxm
    have hR5 : RRd (five w5 w1.heap.size (.int .i64 (st3 a).sysV.stamp) (.string (st3 a).sysV.machine) (.int .i64 (st3 a).sysV.user) (.int .i64 (st3 a).sysV.group) (.slice GA (st3 a).sysV.groups.length gc)) (w.heap.size + 1 + 1) (st3 a).sysS := hR5.keep (five_other (by omega))
    have hfw := five_fr (b := w1.heap.size) (v3 := .int .i64 (st3 a).sysV.stamp) (v4 := .string (st3 a).sysV.machine) (v5 := .int .i64 (st3 a).sysV.user) (v6 := .int .i64 (st3 a).sysV.group) (v7 := .slice GA (st3 a).sysV.groups.length gc) hfw (by omega)
    have hO : (five w5 w1.heap.size (.int .i64 (st3 a).sysV.stamp) (.string (st3 a).sysV.machine) (.int .i64 (st3 a).sysV.user) (.int .i64 (st3 a).sysV.group) (.slice GA (st3 a).sysV.groups.length gc)).ownsRow W4.heap.size 3 1 (.slice GA (st3 a).sysV.groups.length gc) _ _ := ownsRow_keep HO.out (fun g e => five_other (by have := (HO.out.lt g e).1; omega))
    have HO := Lib.hid hO
    have HA := Lib.hid (IntsAt.ofRow hO)
    clear m0 m1 m2 m3 m4 m5 m6 m7 g0 g1 g2 g3 g4 g5 g6 g7 hO
    show Calls _ _ _ (five w5 w1.heap.size (.int .i64 (st3 a).sysV.stamp) (.string (st3 a).sysV.machine) (.int .i64 (st3 a).sysV.user) (.int .i64 (st3 a).sysV.group) (.slice GA (st3 a).sysV.groups.length gc)) _
    generalize five w5 _ _ _ _ _ _ = W5 at *
    refine (MarkMay_any (markOf a) GA gc _ HA.out).mono ?_
    rintro e w6 ⟨rfl, hf2⟩
    have hx1 := hidMove hx1 hf2 id
    have hxm := hidMove hxm hf2 id
    have hfw := hfw.then hf2 (fun i hi h => h)
    have hR6 := hR5.fr hf2 id
    have hO6 : w6.ownsRow W4.heap.size 3 1 (.slice GA (st3 a).sysV.groups.length gc) _ _ := ownsRow_keep HO.out (fun g e => hf2.block g (HO.out.lt g e).2 id)
    have HO := Lib.hid hO6
    clear hf2 hO6 hR5 HA
    go_wp2_with fail
    refine (rRDone_any _ hR6).mono ?_
    rintro e w7 ⟨rfl, hf2⟩
    have hx1 := hidMove hx1 hf2 id
    have hxm := hidMove hxm hf2 id
    have hfw := hfw.then hf2 (fun i hi h => h)
    have hO7 : w7.ownsRow W4.heap.size 3 1 (.slice GA (st3 a).sysV.groups.length gc) _ _ := ownsRow_keep HO.out (fun g e => hf2.block g (HO.out.lt g e).2 id)
    have HO := Lib.hid hO7
    clear hf2 hO7 hR6
    obtain ⟨m0, m1, m2, m3, m4, m5, m6, m7⟩ := box8 hxm
    obtain ⟨s0, s1, s2, s3, s4, s5, s6, s7⟩ := box8 hx1
    obtain ⟨g0, g1, g2, g3, g4, g5, g6, g7⟩ := frees8 hx1
    have hl1 : w.heap.size + 1 < w7.heap.size := lt_of_block hx1.out
    have hlm : w1.heap.size < w7.heap.size := lt_of_block hxm.out
    by_cases hd : (st3 a).sysS.doneV = 0
    · have hd1 : ((st3 a).sysS.doneV != 0) = false := by rw [hd]; rfl
      have HD := Lib.hid hd
      clear hd
      by_cases hn : mayB (markOf a) = true
      · go_wp2
        refine bodyPost_ret (v := .tuple #[markVv (markOf a) (.slice GA (markOf a).sys.groups.length gc), .int .i64 0]) ?_ rfl ?_
        · simp [results, Tryz.results23, go_sem, markVv, s0, s1, s2, s3, s4, s5, s6, s7]
          exact ⟨rfl, rfl, rfl, rfl, rfl⟩
        · rw [HP.out, if_pos ⟨HD.out, hn⟩]
          refine ⟨hfw.set8 (by omega) _ _ _ _ _ _ _ _, _, rfl, ?_⟩
          unfold IntsNew
          refine ownsRow_set8 (ownsRow_lower HO.out (by omega)) (fun e => ?_) _ _ _ _ _ _ _ _
          have := (HO.out.lt _ e).1
          omega
      · have hn' := hn
        rw [Bool.not_eq_true] at hn
        go_wp2
        refine bodyPost_ret (v := .tuple #[markVv zeroMark (.slice none 0 0), .int .i64 111]) ?_ rfl ?_
        · simp [results, Tryz.results23, go_sem, markVv, zeroMark, zeroSys, s0, s1, s2, s3, s4, s5, s6, s7]
          rfl
        · rw [HP.out, if_neg (fun h => hn' h.2)]
          exact ⟨hfw.set8 (by omega) _ _ _ _ _ _ _ _, _, rfl, World.ownsRow_nil _ _ _ _⟩
    · have hd1 : ((st3 a).sysS.doneV != 0) = true := by rw [bne_iff_ne]; exact hd
      have HD := Lib.hid hd
      clear hd
      go_wp2
      refine bodyPost_ret (v := .tuple #[markVv zeroMark (.slice none 0 0), .int .i64 111]) ?_ rfl ?_
      · simp [results, Tryz.results23, go_sem, markVv, zeroMark, zeroSys, s0, s1, s2, s3, s4, s5, s6, s7]
        rfl
      · rw [HP.out, if_neg (fun h => HD.out h.1)]
        exact ⟨hfw.set8 (by omega) _ _ _ _ _ _ _ _, _, rfl, World.ownsRow_nil _ _ _ _⟩
  · have hb : (a.flavor != 1296126539) = true := by rw [bne_iff_ne]; exact hf
    have hP : parseMarkM a = (zeroMark, 112) := if_neg hf
    rw [hP]
    clear hP hf HB
    go_enter Tryz.func23, Tryz.ntmps23
    go_wp2
    refine bodyPost_ret (v := .tuple #[markVv zeroMark (.slice none 0 0), .int .i64 112]) ?_ rfl ?_
    · simp [results, Tryz.results23, go_sem, markVv, zeroMark, zeroSys]
      rfl
    · exact ⟨((Fr.refl _ _).alloc _).alloc _, _, rfl, World.ownsRow_nil _ _ _ _⟩
end Go.Proofs.YtcooijhndiainaaGreatDoor
