/- Package message: the shape of a reply. -/
import Derived.Test.YtbegjpmifcnieaaGreatDoorNa
import Derived.Test.YtbegjpmifcnieaaGreatDoorPm
namespace Go.Proofs.YtbegjpmifcnieaaGreatDoor
open Go.RowKit
set_option linter.unusedVariables false
set_option linter.unusedSimpArgs false

def ReplyAt (w : World) (b T : Nat) (r : ReplyM) : Prop := w.heap[b]? = some (.cells #[.int .i64 r.xid, .bool r.denied, .int .i64 r.verf.flavor, .string r.verf.body, .int .i64 r.accept, .int .i64 r.reject, .int .i64 r.why, .int .i64 r.low, .int .i64 r.high, .string r.results] T (0, 0))
def shP (b : Nat) (r : ReplyM) : List Addr :=
  if r.denied = true then (if r.reject = 0 then [⟨b, 7, none⟩, ⟨b, 8, none⟩] else if r.reject = 1 then [⟨b, 6, none⟩] else []) else if r.accept = 2 then [⟨b, 7, none⟩, ⟨b, 8, none⟩] else []
def shV (r : ReplyM) : Bool := !r.denied && (decide (0 ≤ r.accept) && decide (r.accept ≤ 5))
def shR (r : ReplyM) : Bool := !r.denied && (r.accept == 0)
def shOk (r : ReplyM) : Bool := if r.denied then (r.reject == 0) || (r.reject == 1) else (decide (0 ≤ r.accept) && decide (r.accept ≤ 5))

theorem two_ptrs {w : World} {g : Nat} {p q : Addr} (h : w.heap[g]? = some (.cells #[.pointer (some p), .pointer (some q)] 258 (0, 0))) : ∀ j, j < ([p, q] : List Addr).length → w.cell? ⟨g, j, none⟩ = some (.pointer (some (([p, q] : List Addr).getD j default))) := by
  intro j hj
  match j, hj with
  | 0, _ => exact cellOf h 0
  | 1, _ => exact cellOf h 1
theorem one_ptr {w : World} {g : Nat} {p : Addr} (h : w.heap[g]? = some (.cells #[.pointer (some p)] 258 (0, 0))) : ∀ j, j < ([p] : List Addr).length → w.cell? ⟨g, j, none⟩ = some (.pointer (some (([p] : List Addr).getD j default))) := by
  intro j hj
  match j, hj with
  | 0, _ => exact cellOf h 0

theorem box4 {w : World} {b t : Nat} {v0 v1 v2 v3 : Value} (h : w.heap[b]? = some (.cells #[v0, v1, v2, v3] t (0, 0))) :
    (w.cell? ⟨b, 0, none⟩ = some v0 ∧ w.cell? ⟨b, 1, none⟩ = some v1 ∧ w.cell? ⟨b, 2, none⟩ = some v2 ∧ w.cell? ⟨b, 3, none⟩ = some v3) ∧
    (w.frozen? ⟨b, 0, none⟩ = false ∧ w.frozen? ⟨b, 1, none⟩ = false ∧ w.frozen? ⟨b, 2, none⟩ = false ∧ w.frozen? ⟨b, 3, none⟩ = false) ∧ b < w.heap.size :=
  ⟨⟨cellOf h 0, cellOf h 1, cellOf h 2, cellOf h 3⟩, ⟨freeOf h 0, freeOf h 1, freeOf h 2, freeOf h 3⟩, lt_of_block h⟩
set_option maxRecDepth 100000 in
set_option maxHeartbeats 4000000 in
theorem shapeOf_any (b T : Nat) (r : ReplyM) (w : World) (hx : ReplyAt w b T r) :
    Calls Tryz.prog 149 #[.pointer (some ⟨b, 0, none⟩)] w fun e w' => ∃ v, e = .returned (.agg #[v, .bool (shV r), .bool (shR r), .bool (shOk r)]) ∧ Fr (fun _ => False) w w' ∧ w'.ownsRow w.heap.size 326 3 v (shP b r).length (fieldCells (shP b r)) := by
  have hlt := lt_of_block hx
  have HX := Lib.hid hx
  clear hx
  have hx1 := heap_old (o := (Obj.cells #[.slice none 0 0, .bool false, .bool false, .bool false] 260 (0, 0))) HX.out
  obtain ⟨n0, n1, n2, n3, n4, n5, n6, n7, n8, n9⟩ := box10 (Lib.hid hx1)
  clear n0 n2 n3 n6 n7 n8 n9 hx1
  by_cases hd : r.denied = true
  · by_cases j0 : r.reject = 0
    · rw [show shP b r = [⟨b, 7, none⟩, ⟨b, 8, none⟩] by simp [shP, hd, j0], show shV r = false by simp [shV, hd, j0], show shR r = false by simp [shR, hd, j0], show shOk r = true by simp [shOk, hd, j0]]
      have hps := Lib.hid (two_ptrs (w := ((w.alloc (Obj.cells #[.slice none 0 0, .bool false, .bool false, .bool false] 260 (0, 0))).alloc (Obj.cells #[.pointer (some ⟨b, 7, none⟩), .pointer (some ⟨b, 8, none⟩)] 258 (0, 0))).drew) (g := w.heap.size + 1) (show _ = _ from heap_two (w := w) (a := (Obj.cells #[.slice none 0 0, .bool false, .bool false, .bool false] 260 (0, 0))) (b := (Obj.cells #[.pointer (some ⟨b, 7, none⟩), .pointer (some ⟨b, 8, none⟩)] 258 (0, 0)))))
      have hsh := Lib.hid (show (((w.alloc (Obj.cells #[.slice none 0 0, .bool false, .bool false, .bool false] 260 (0, 0))).alloc (Obj.cells #[.pointer (some ⟨b, 7, none⟩), .pointer (some ⟨b, 8, none⟩)] 258 (0, 0))).drew).heap[w.heap.size]? = some (Obj.cells #[.slice none 0 0, .bool false, .bool false, .bool false] 260 (0, 0)) from heap_old (o := (Obj.cells #[.pointer (some ⟨b, 7, none⟩), .pointer (some ⟨b, 8, none⟩)] 258 (0, 0))) (heap_alloc_new w (Obj.cells #[.slice none 0 0, .bool false, .bool false, .bool false] 260 (0, 0))))
      have hfr := Lib.hid (show Fr (fun _ => False) w (((w.alloc (Obj.cells #[.slice none 0 0, .bool false, .bool false, .bool false] 260 (0, 0))).alloc (Obj.cells #[.pointer (some ⟨b, 7, none⟩), .pointer (some ⟨b, 8, none⟩)] 258 (0, 0))).drew) from (((Fr.refl _ _).alloc _).alloc _).drew)
      have hsz : (((w.alloc (Obj.cells #[.slice none 0 0, .bool false, .bool false, .bool false] 260 (0, 0))).alloc (Obj.cells #[.pointer (some ⟨b, 7, none⟩), .pointer (some ⟨b, 8, none⟩)] 258 (0, 0))).drew).heap.size = w.heap.size + 2 := by simp
      go_enter Tryz.func149, Tryz.ntmps149
      go_wp2_with fail
      go_region_with (go_at_call 148; refine (words_any _ _ [⟨b, 7, none⟩, ⟨b, 8, none⟩] _ (by simp) hps.out).mono ?_; rintro e w2 ⟨v, rfl, hb2, ho2⟩; have hs2 := (Fr.ofBelow (S := fun _ => False) hb2).block _ (lt_of_block hsh.out) id; have hs3 := hs2.trans hsh.out; obtain ⟨⟨q0, q1, q2, q3⟩, ⟨f0, f1, f2, f3⟩, hlt2⟩ := box4 hs3; obtain ⟨g, cp, rfl, hg1, hg2⟩ := owns_some ho2 (by simp))
      go_wp2
      rw [hsz] at hg1
      have hne : (Value.slice (some ⟨g, 0, none⟩) 2 cp).ownBlock ≠ some w.heap.size := fun e => by simp [Value.ownBlock] at e; omega
      refine bodyPost_ret (v := .agg #[.slice (some ⟨g, 0, none⟩) 2 cp, .bool false, .bool false, .bool true]) ?_ rfl ⟨_, rfl, ?_, ?_⟩
      · simp [results, Tryz.results149, go_sem, q0, q1, q2, q3, hlt2]
      · exact ((((hfr.out.then (Fr.ofBelow hb2) (fun _ _ h => h)).setCell (.inr (Nat.le_refl _)) _).setCell (.inr (Nat.le_refl _)) _).setCell (.inr (Nat.le_refl _)) _).setCell (.inr (Nat.le_refl _)) _
      · exact ownsRow_setCell_other (ownsRow_setCell_other (ownsRow_setCell_other (ownsRow_setCell_other (ownsRow_lower ho2 (by omega)) hne _) hne _) hne _) hne _
    · by_cases j1 : r.reject = 1
      · rw [show shP b r = [⟨b, 6, none⟩] by simp [shP, hd, j1], show shV r = false by simp [shV, hd, j1], show shR r = false by simp [shR, hd, j1], show shOk r = true by simp [shOk, hd, j1]]
        have hps := Lib.hid (one_ptr (w := ((w.alloc (Obj.cells #[.slice none 0 0, .bool false, .bool false, .bool false] 260 (0, 0))).alloc (Obj.cells #[.pointer (some ⟨b, 6, none⟩)] 258 (0, 0)))) (g := w.heap.size + 1) (show _ = _ from heap_two (w := w) (a := (Obj.cells #[.slice none 0 0, .bool false, .bool false, .bool false] 260 (0, 0))) (b := (Obj.cells #[.pointer (some ⟨b, 6, none⟩)] 258 (0, 0)))))
        have hsh := Lib.hid (show (((w.alloc (Obj.cells #[.slice none 0 0, .bool false, .bool false, .bool false] 260 (0, 0))).alloc (Obj.cells #[.pointer (some ⟨b, 6, none⟩)] 258 (0, 0)))).heap[w.heap.size]? = some (Obj.cells #[.slice none 0 0, .bool false, .bool false, .bool false] 260 (0, 0)) from heap_old (o := (Obj.cells #[.pointer (some ⟨b, 6, none⟩)] 258 (0, 0))) (heap_alloc_new w (Obj.cells #[.slice none 0 0, .bool false, .bool false, .bool false] 260 (0, 0))))
        have hfr := Lib.hid (show Fr (fun _ => False) w (((w.alloc (Obj.cells #[.slice none 0 0, .bool false, .bool false, .bool false] 260 (0, 0))).alloc (Obj.cells #[.pointer (some ⟨b, 6, none⟩)] 258 (0, 0)))) from (((Fr.refl _ _).alloc _).alloc _))
        have hsz : (((w.alloc (Obj.cells #[.slice none 0 0, .bool false, .bool false, .bool false] 260 (0, 0))).alloc (Obj.cells #[.pointer (some ⟨b, 6, none⟩)] 258 (0, 0)))).heap.size = w.heap.size + 2 := by simp
        go_enter Tryz.func149, Tryz.ntmps149
        go_wp2_with (go_at_call 148; refine (words_any _ _ [⟨b, 6, none⟩] _ (by simp) hps.out).mono ?_; rintro e w2 ⟨v, rfl, hb2, ho2⟩; have hs2 := (Fr.ofBelow (S := fun _ => False) hb2).block _ (lt_of_block hsh.out) id; have hs3 := hs2.trans hsh.out; obtain ⟨⟨q0, q1, q2, q3⟩, ⟨f0, f1, f2, f3⟩, hlt2⟩ := box4 hs3; obtain ⟨g, cp, rfl, hg1, hg2⟩ := owns_some ho2 (by simp))
        go_wp2
        rw [hsz] at hg1
        have hne : (Value.slice (some ⟨g, 0, none⟩) 1 cp).ownBlock ≠ some w.heap.size := fun e => by simp [Value.ownBlock] at e; omega
        refine bodyPost_ret (v := .agg #[.slice (some ⟨g, 0, none⟩) 1 cp, .bool false, .bool false, .bool true]) ?_ rfl ⟨_, rfl, ?_, ?_⟩
        · simp [results, Tryz.results149, go_sem, q0, q1, q2, q3, hlt2]
        · exact ((((hfr.out.then (Fr.ofBelow hb2) (fun _ _ h => h)).setCell (.inr (Nat.le_refl _)) _).setCell (.inr (Nat.le_refl _)) _).setCell (.inr (Nat.le_refl _)) _).setCell (.inr (Nat.le_refl _)) _
        · exact ownsRow_setCell_other (ownsRow_setCell_other (ownsRow_setCell_other (ownsRow_setCell_other (ownsRow_lower ho2 (by omega)) hne _) hne _) hne _) hne _
      · rw [show shP b r = [] by simp [shP, hd, j0, j1], show shV r = false by simp [shV, hd, j0, j1], show shR r = false by simp [shR, hd, j0, j1], show shOk r = false by simp [shOk, hd, j0, j1]]
        obtain ⟨⟨q0, q1, q2, q3⟩, ⟨f0, f1, f2, f3⟩, hlt2⟩ := box4 (heap_alloc_new w (Obj.cells #[.slice none 0 0, .bool false, .bool false, .bool false] 260 (0, 0)))
        go_enter Tryz.func149, Tryz.ntmps149
        go_wp2
        refine bodyPost_ret (v := .agg #[.slice none 0 0, .bool false, .bool false, .bool false]) ?_ rfl ⟨_, rfl, ?_, ?_⟩
        · simp [results, Tryz.results149, go_sem, q0, q1, q2, q3, hlt2]
        · exact (Fr.refl _ _).alloc _
        · exact World.ownsRow_nil _ _ _ _
  · rw [Bool.not_eq_true] at hd
    by_cases j0 : r.accept = 0
    · rw [show shP b r = [] by simp [shP, hd, j0], show shV r = true by simp [shV, hd, j0], show shR r = true by simp [shR, hd, j0], show shOk r = true by simp [shOk, hd, j0]]
      obtain ⟨⟨q0, q1, q2, q3⟩, ⟨f0, f1, f2, f3⟩, hlt2⟩ := box4 (heap_alloc_new w (Obj.cells #[.slice none 0 0, .bool false, .bool false, .bool false] 260 (0, 0)))
      go_enter Tryz.func149, Tryz.ntmps149
      go_wp2
      refine bodyPost_ret (v := .agg #[.slice none 0 0, .bool true, .bool true, .bool true]) ?_ rfl ⟨_, rfl, ?_, ?_⟩
      · simp [results, Tryz.results149, go_sem, q0, q1, q2, q3, hlt2]
      · exact (Fr.refl _ _).alloc _
      · exact World.ownsRow_nil _ _ _ _
    · by_cases j2 : r.accept = 2
      · rw [show shP b r = [⟨b, 7, none⟩, ⟨b, 8, none⟩] by simp [shP, hd, j2], show shV r = true by simp [shV, hd, j2], show shR r = false by simp [shR, hd, j2], show shOk r = true by simp [shOk, hd, j2]]
        have hps := Lib.hid (two_ptrs (w := ((w.alloc (Obj.cells #[.slice none 0 0, .bool false, .bool false, .bool false] 260 (0, 0))).alloc (Obj.cells #[.pointer (some ⟨b, 7, none⟩), .pointer (some ⟨b, 8, none⟩)] 258 (0, 0))).drew) (g := w.heap.size + 1) (show _ = _ from heap_two (w := w) (a := (Obj.cells #[.slice none 0 0, .bool false, .bool false, .bool false] 260 (0, 0))) (b := (Obj.cells #[.pointer (some ⟨b, 7, none⟩), .pointer (some ⟨b, 8, none⟩)] 258 (0, 0)))))
        have hsh := Lib.hid (show (((w.alloc (Obj.cells #[.slice none 0 0, .bool false, .bool false, .bool false] 260 (0, 0))).alloc (Obj.cells #[.pointer (some ⟨b, 7, none⟩), .pointer (some ⟨b, 8, none⟩)] 258 (0, 0))).drew).heap[w.heap.size]? = some (Obj.cells #[.slice none 0 0, .bool false, .bool false, .bool false] 260 (0, 0)) from heap_old (o := (Obj.cells #[.pointer (some ⟨b, 7, none⟩), .pointer (some ⟨b, 8, none⟩)] 258 (0, 0))) (heap_alloc_new w (Obj.cells #[.slice none 0 0, .bool false, .bool false, .bool false] 260 (0, 0))))
        have hfr := Lib.hid (show Fr (fun _ => False) w (((w.alloc (Obj.cells #[.slice none 0 0, .bool false, .bool false, .bool false] 260 (0, 0))).alloc (Obj.cells #[.pointer (some ⟨b, 7, none⟩), .pointer (some ⟨b, 8, none⟩)] 258 (0, 0))).drew) from (((Fr.refl _ _).alloc _).alloc _).drew)
        have hsz : (((w.alloc (Obj.cells #[.slice none 0 0, .bool false, .bool false, .bool false] 260 (0, 0))).alloc (Obj.cells #[.pointer (some ⟨b, 7, none⟩), .pointer (some ⟨b, 8, none⟩)] 258 (0, 0))).drew).heap.size = w.heap.size + 2 := by simp
        go_enter Tryz.func149, Tryz.ntmps149
        go_wp2_with fail
        go_region_with (go_at_call 148; refine (words_any _ _ [⟨b, 7, none⟩, ⟨b, 8, none⟩] _ (by simp) hps.out).mono ?_; rintro e w2 ⟨v, rfl, hb2, ho2⟩; have hs2 := (Fr.ofBelow (S := fun _ => False) hb2).block _ (lt_of_block hsh.out) id; have hs3 := hs2.trans hsh.out; obtain ⟨⟨q0, q1, q2, q3⟩, ⟨f0, f1, f2, f3⟩, hlt2⟩ := box4 hs3; obtain ⟨g, cp, rfl, hg1, hg2⟩ := owns_some ho2 (by simp))
        go_wp2
        rw [hsz] at hg1
        have hne : (Value.slice (some ⟨g, 0, none⟩) 2 cp).ownBlock ≠ some w.heap.size := fun e => by simp [Value.ownBlock] at e; omega
        refine bodyPost_ret (v := .agg #[.slice (some ⟨g, 0, none⟩) 2 cp, .bool true, .bool false, .bool true]) ?_ rfl ⟨_, rfl, ?_, ?_⟩
        · simp [results, Tryz.results149, go_sem, q0, q1, q2, q3, hlt2]
        · exact ((((hfr.out.then (Fr.ofBelow hb2) (fun _ _ h => h)).setCell (.inr (Nat.le_refl _)) _).setCell (.inr (Nat.le_refl _)) _).setCell (.inr (Nat.le_refl _)) _).setCell (.inr (Nat.le_refl _)) _
        · exact ownsRow_setCell_other (ownsRow_setCell_other (ownsRow_setCell_other (ownsRow_setCell_other (ownsRow_lower ho2 (by omega)) hne _) hne _) hne _) hne _
      · by_cases jb : 0 ≤ r.accept ∧ r.accept ≤ 5
        · rw [show shP b r = [] by simp [shP, hd, j0, j2, jb], show shV r = true by simp [shV, hd, j0, j2, jb], show shR r = false by simp [shR, hd, j0, j2, jb], show shOk r = true by simp [shOk, hd, j0, j2, jb]]
          rcases (by omega : r.accept = 1 ∨ r.accept = 3 ∨ r.accept = 4 ∨ r.accept = 5) with j | j | j | j
          · obtain ⟨⟨q0, q1, q2, q3⟩, ⟨f0, f1, f2, f3⟩, hlt2⟩ := box4 (heap_alloc_new w (Obj.cells #[.slice none 0 0, .bool false, .bool false, .bool false] 260 (0, 0)))
            go_enter Tryz.func149, Tryz.ntmps149
            go_wp2
            refine bodyPost_ret (v := .agg #[.slice none 0 0, .bool true, .bool false, .bool true]) ?_ rfl ⟨_, rfl, ?_, ?_⟩
            · simp [results, Tryz.results149, go_sem, q0, q1, q2, q3, hlt2]
            · exact (Fr.refl _ _).alloc _
            · exact World.ownsRow_nil _ _ _ _
          · obtain ⟨⟨q0, q1, q2, q3⟩, ⟨f0, f1, f2, f3⟩, hlt2⟩ := box4 (heap_alloc_new w (Obj.cells #[.slice none 0 0, .bool false, .bool false, .bool false] 260 (0, 0)))
            go_enter Tryz.func149, Tryz.ntmps149
            go_wp2
            refine bodyPost_ret (v := .agg #[.slice none 0 0, .bool true, .bool false, .bool true]) ?_ rfl ⟨_, rfl, ?_, ?_⟩
            · simp [results, Tryz.results149, go_sem, q0, q1, q2, q3, hlt2]
            · exact (Fr.refl _ _).alloc _
            · exact World.ownsRow_nil _ _ _ _
          · obtain ⟨⟨q0, q1, q2, q3⟩, ⟨f0, f1, f2, f3⟩, hlt2⟩ := box4 (heap_alloc_new w (Obj.cells #[.slice none 0 0, .bool false, .bool false, .bool false] 260 (0, 0)))
            go_enter Tryz.func149, Tryz.ntmps149
            go_wp2
            refine bodyPost_ret (v := .agg #[.slice none 0 0, .bool true, .bool false, .bool true]) ?_ rfl ⟨_, rfl, ?_, ?_⟩
            · simp [results, Tryz.results149, go_sem, q0, q1, q2, q3, hlt2]
            · exact (Fr.refl _ _).alloc _
            · exact World.ownsRow_nil _ _ _ _
          · obtain ⟨⟨q0, q1, q2, q3⟩, ⟨f0, f1, f2, f3⟩, hlt2⟩ := box4 (heap_alloc_new w (Obj.cells #[.slice none 0 0, .bool false, .bool false, .bool false] 260 (0, 0)))
            go_enter Tryz.func149, Tryz.ntmps149
            go_wp2
            refine bodyPost_ret (v := .agg #[.slice none 0 0, .bool true, .bool false, .bool true]) ?_ rfl ⟨_, rfl, ?_, ?_⟩
            · simp [results, Tryz.results149, go_sem, q0, q1, q2, q3, hlt2]
            · exact (Fr.refl _ _).alloc _
            · exact World.ownsRow_nil _ _ _ _
        · have jc : (decide (0 ≤ r.accept) && decide (r.accept ≤ 5)) = false := by by_cases h1 : 0 ≤ r.accept <;> simp [h1] <;> omega
          rw [show shP b r = [] by simp [shP, hd, j0, j2, jc], show shV r = false by simp [shV, hd, j0, j2, jc], show shR r = false by simp [shR, hd, j0, j2, jc], show shOk r = false by simp [shOk, hd, j0, j2, jc]]
          have k1 : ¬ r.accept = 1 := by omega
          have k3 : ¬ r.accept = 3 := by omega
          have k4 : ¬ r.accept = 4 := by omega
          have k5 : ¬ r.accept = 5 := by omega
          clear jb jc
          obtain ⟨⟨q0, q1, q2, q3⟩, ⟨f0, f1, f2, f3⟩, hlt2⟩ := box4 (heap_alloc_new w (Obj.cells #[.slice none 0 0, .bool false, .bool false, .bool false] 260 (0, 0)))
          go_enter Tryz.func149, Tryz.ntmps149
          go_wp2
          refine bodyPost_ret (v := .agg #[.slice none 0 0, .bool false, .bool false, .bool false]) ?_ rfl ⟨_, rfl, ?_, ?_⟩
          · simp [results, Tryz.results149, go_sem, q0, q1, q2, q3, hlt2]
          · exact (Fr.refl _ _).alloc _
          · exact World.ownsRow_nil _ _ _ _
end Go.Proofs.YtbegjpmifcnieaaGreatDoor
