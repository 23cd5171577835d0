/- The document's credentials (callboxref11): whether somebody may be. -/
import Derived.Test.YtbegjpmifcnieaaGreatDoorR2
import Derived.Test.YtbegjpmifcnieaaGreatDoorCp
import Derived.Test.YtbegjpmifcnieaaGreatDoorBi
import Derived.Test.YtbegjpmifcnieaaGreatDoorMc
import Derived.Laws.CopyOwn
namespace Go.Proofs.YtbegjpmifcnieaaGreatDoor
open Go.RowKit
set_option linter.unusedVariables false
set_option linter.unusedSimpArgs false

theorem word11_any (n : Int) (w : World) : Calls Tryz.prog 206 #[.int .i64 n] w fun r w' => r = .returned (.bool (isWordB n)) ∧ w = w' := by
  by_cases h : 0 ≤ n
  · by_cases h2 : n ≤ 4294967295
    · rw [isWordB_of ⟨h, h2⟩]
      go_enter Tryz.func206, Tryz.ntmps206
      go_wp2
      go_ret
      exact ⟨rfl, rfl⟩
    · rw [isWordB_no (fun h => h2 h.2)]
      go_enter Tryz.func206, Tryz.ntmps206
      go_wp2
      go_ret
      exact ⟨rfl, rfl⟩
  · rw [isWordB_no (fun h2 => h h2.1)]
    go_enter Tryz.func206, Tryz.ntmps206
    go_wp2
    go_ret
    exact ⟨rfl, rfl⟩

set_option maxRecDepth 100000 in
set_option maxHeartbeats 2000000 in
theorem SysMay_any (s : SysM) (A : Option Addr) (c : Nat) (w : World) (hA : IntsAt w A s.groups) :
    Calls Tryz.prog 134 #[.agg #[.int .i64 s.stamp, .string s.machine, .int .i64 s.user, .int .i64 s.group, .slice A s.groups.length c]] w fun r w' => r = .returned (.bool (namedB s)) ∧ Fr (fun _ => False) w w' := by
  have HA := Lib.hid hA
  clear hA
  have key : namedB s = (isWordB s.stamp && isWordB s.user && isWordB s.group && decide ((s.machine.size : Int) ≤ 255) && decide ((s.groups.length : Int) ≤ 16) && s.groups.all isWordB) := rfl
  generalize h1 : isWordB s.stamp = b1 at key
  generalize h2 : isWordB s.user = b2 at key
  generalize h3 : isWordB s.group = b3 at key
  have KEY := Lib.hid key
  have C1 := fun w => Lib.hid (h1 ▸ word11_any s.stamp w)
  have C2 := fun w => Lib.hid (h2 ▸ word11_any s.user w)
  have C3 := fun w => Lib.hid (h3 ▸ word11_any s.group w)
  clear key h1 h2 h3
  by_cases hk : (b1 && b2 && b3 && decide ((s.machine.size : Int) ≤ 255) && decide ((s.groups.length : Int) ≤ 16)) = true
  · have e : namedB s = s.groups.all isWordB := by rw [KEY.out, hk]; simp
    rw [e]
    simp only [Bool.and_eq_true, decide_eq_true_eq] at hk
    obtain ⟨⟨⟨⟨rfl, rfl⟩, rfl⟩, h4⟩, h5⟩ := hk
    clear KEY e
    go_enter Tryz.func134, Tryz.ntmps134
    go_wp2_with fail
    refine (C1 _).out.mono ?_
    rintro e w' ⟨rfl, rfl⟩
    go_wp2_with fail
    refine (C2 _).out.mono ?_
    rintro e w' ⟨rfl, rfl⟩
    go_wp2_with fail
    refine (C3 _).out.mono ?_
    rintro e w' ⟨rfl, rfl⟩
    go_wp2_with fail
    go_loop [6, 7] (fun i _ => ∃ k : Nat, k ≤ s.groups.length ∧ i = .int .i64 k ∧ Hid (∀ j, j < k → isWordB (s.groups.getD j 0) = true)) (fun i _ => s.groups.length - (intOf i).toNat)
    case atStart => exact ⟨0, Nat.zero_le _, rfl, Lib.hid (fun j hj => by omega)⟩
    case round =>
      obtain ⟨k, hk, rfl, hw⟩ := hrel
      by_cases hlt : k < s.groups.length
      · rcases HA.out with h0 | ⟨b, off, rfl, hb, hc⟩
        · rw [h0] at hlt; simp at hlt
        have hcell := hc k hlt
        clear hc
        generalize hx : s.groups.getD k 0 = x at hcell
        have HX := Lib.hid hx
        clear hx
        by_cases hi : isWordB x = true
        · have hw' : Hid (∀ j, j < k + 1 → isWordB (s.groups.getD j 0) = true) := Lib.hid (fun j hj => by
            by_cases h : j < k
            · exact hw.out j h
            · obtain rfl : j = k := by omega
              rw [HX.out]; exact hi)
          go_wp2_with (go_at_call 206; refine (word11_any _ _).mono ?_; rintro e w' ⟨rfl, rfl⟩)
          exact ⟨⟨k + 1, by omega, by go_num, hw'⟩, by simp [intOf]; omega⟩
        · rw [Bool.not_eq_true] at hi
          go_wp2_with (go_at_call 206; refine (word11_any _ _).mono ?_; rintro e w' ⟨rfl, rfl⟩)
          go_ret
          rw [not_all_getD s.groups 0 isWordB k hlt (by rw [HX.out]; exact hi)]
          exact ⟨rfl, (Fr.refl _ _).alloc _⟩
      · go_wp2
        go_ret
        rw [all_getD s.groups 0 isWordB (fun j hj => hw.out j (by omega))]
        exact ⟨rfl, (Fr.refl _ _).alloc _⟩
  · have e : namedB s = false := by rw [KEY.out]; rw [Bool.not_eq_true] at hk; rw [hk]; rfl
    rw [e]
    clear KEY e
    cases b1 with
    | false =>
      clear hk
      go_enter Tryz.func134, Tryz.ntmps134
      go_wp2_with fail
      refine (C1 _).out.mono ?_
      rintro e w' ⟨rfl, rfl⟩
      go_wp2_with fail
      refine (C2 _).out.mono ?_
      rintro e w' ⟨rfl, rfl⟩
      go_wp2_with fail
      refine (C3 _).out.mono ?_
      rintro e w' ⟨rfl, rfl⟩
      go_wp2_with fail
      go_ret
      exact ⟨rfl, (Fr.refl _ _).alloc _⟩
    | true =>
    cases b2 with
    | false =>
      clear hk
      go_enter Tryz.func134, Tryz.ntmps134
      go_wp2_with fail
      refine (C1 _).out.mono ?_
      rintro e w' ⟨rfl, rfl⟩
      go_wp2_with fail
      refine (C2 _).out.mono ?_
      rintro e w' ⟨rfl, rfl⟩
      go_wp2_with fail
      refine (C3 _).out.mono ?_
      rintro e w' ⟨rfl, rfl⟩
      go_wp2_with fail
      go_ret
      exact ⟨rfl, (Fr.refl _ _).alloc _⟩
    | true =>
    cases b3 with
    | false =>
      clear hk
      go_enter Tryz.func134, Tryz.ntmps134
      go_wp2_with fail
      refine (C1 _).out.mono ?_
      rintro e w' ⟨rfl, rfl⟩
      go_wp2_with fail
      refine (C2 _).out.mono ?_
      rintro e w' ⟨rfl, rfl⟩
      go_wp2_with fail
      refine (C3 _).out.mono ?_
      rintro e w' ⟨rfl, rfl⟩
      go_wp2_with fail
      go_ret
      exact ⟨rfl, (Fr.refl _ _).alloc _⟩
    | true =>
      have hk' : ¬ ((s.machine.size : Int) ≤ 255 ∧ (s.groups.length : Int) ≤ 16) := by
        intro h
        exact hk (by simp [h.1, h.2])
      by_cases h4 : (s.machine.size : Int) ≤ 255
      · have h5 : (16 : Int) < s.groups.length := by omega
        clear hk hk'
        go_enter Tryz.func134, Tryz.ntmps134
        go_wp2_with fail
        refine (C1 _).out.mono ?_
        rintro e w' ⟨rfl, rfl⟩
        go_wp2_with fail
        refine (C2 _).out.mono ?_
        rintro e w' ⟨rfl, rfl⟩
        go_wp2_with fail
        refine (C3 _).out.mono ?_
        rintro e w' ⟨rfl, rfl⟩
        go_wp2_with fail
        go_ret
        exact ⟨rfl, (Fr.refl _ _).alloc _⟩
      · have h4 := Int.not_le.1 h4
        clear hk hk'
        go_enter Tryz.func134, Tryz.ntmps134
        go_wp2_with fail
        refine (C1 _).out.mono ?_
        rintro e w' ⟨rfl, rfl⟩
        go_wp2_with fail
        refine (C2 _).out.mono ?_
        rintro e w' ⟨rfl, rfl⟩
        go_wp2_with fail
        refine (C3 _).out.mono ?_
        rintro e w' ⟨rfl, rfl⟩
        go_wp2_with fail
        go_ret
        exact ⟨rfl, (Fr.refl _ _).alloc _⟩

end Go.Proofs.YtbegjpmifcnieaaGreatDoor

/- callboxlaw17: numbers that are lent, and looked at again. -/
namespace Go.Proofs.YtbegjpmifcnieaaGreatDoor
open Go.RowKit
set_option linter.unusedVariables false
set_option linter.unusedSimpArgs false

def addsM (n m : Int) : Int := if n > 2147483647 ∨ m > 2147483647 then 2147483648 else n + m
theorem addsUp_same (n m : Int) (w : World) (hn : 0 ≤ n) (hm : 0 ≤ m) : Calls Tryz.prog 9 #[.int .i64 n, .int .i64 m] w fun r w' => r = .returned (.int .i64 (addsM n m)) ∧ w' = w := by
  by_cases h1 : 2147483647 < n
  · have e : addsM n m = 2147483648 := by simp [addsM, h1]
    rw [e]; clear e
    go_enter Tryz.func9, Tryz.ntmps9
    go_wp2
    go_ret
    exact ⟨rfl, rfl⟩
  · have h1 := Int.not_lt.1 h1
    by_cases h2 : 2147483647 < m
    · have e : addsM n m = 2147483648 := by simp [addsM, h2]
      rw [e]; clear e
      go_enter Tryz.func9, Tryz.ntmps9
      go_wp2
      go_ret
      exact ⟨rfl, rfl⟩
    · have h2 := Int.not_lt.1 h2
      have e : addsM n m = n + m := by simp only [addsM]; rw [if_neg (by omega)]
      rw [e]; clear e
      go_enter Tryz.func9, Tryz.ntmps9
      go_wp2
      go_ret
      exact ⟨rfl, rfl⟩

theorem addsM_nonneg {n m : Int} (hn : 0 ≤ n) (hm : 0 ≤ m) : 0 ≤ addsM n m := by unfold addsM; split <;> omega

set_option maxRecDepth 100000 in
set_option maxHeartbeats 1000000 in
theorem ints_any (xs ys : List Int) (A B : Option Addr) (c d : Nat) (w : World) (hA : IntsAt w A xs) (hB : IntsAt w B ys) (hl : xs.length ≤ 1099511627776) :
    Calls Tryz.prog 68 #[.slice A xs.length c, .slice B ys.length d] w fun r w' => r = .returned (.bool (decide (xs = ys))) ∧ Fr (fun _ => False) w w' := by
  have HA := Lib.hid hA
  have HB := Lib.hid hB
  clear hA hB
  by_cases hlen : xs.length = ys.length
  case neg =>
    have e : decide (xs = ys) = false := decide_eq_false (fun h => hlen (by rw [h]))
    have hne : ((xs.length : Int) == (ys.length : Int)) = false := by rw [beq_eq_false_iff_ne]; omega
    rw [e]
    clear e
    go_enter Tryz.func68, Tryz.ntmps68
    go_wp2
    go_ret
    exact ⟨rfl, Fr.refl _ _⟩
  have he : ((xs.length : Int) == (ys.length : Int)) = true := by rw [beq_iff_eq]; omega
  have HL := Lib.hid hlen
  clear hlen
  go_enter Tryz.func68, Tryz.ntmps68
  go_wp2
  go_loopw [5] (fun i wr => ∃ k : Nat, k ≤ xs.length ∧ i = .int .i64 k ∧ Hid (Fr (fun _ => False) w wr) ∧ Hid (∀ j, j < k → xs.getD j 0 = ys.getD j 0)) (fun i _ => xs.length - (intOf i).toNat)
  case atStart => exact ⟨0, Nat.zero_le _, rfl, Lib.hid (Fr.refl _ _), Lib.hid (fun j hj => by omega)⟩
  case round =>
    obtain ⟨k, hk, rfl, hfr, hw⟩ := hrel
    by_cases hlt : k < xs.length
    · rcases (HA.out.fr hfr.out (fun _ _ h => h)) with h0 | ⟨b, off, rfl, hb, hc⟩
      · rw [h0] at hlt; simp at hlt
      rcases (HB.out.fr hfr.out (fun _ _ h => h)) with h0 | ⟨b2, off2, rfl, hb2, hc2⟩
      · have h9 := HL.out; rw [h0, List.length_nil] at h9; omega
      have hcell := hc k hlt
      have hlt2 : k < ys.length := by have := HL.out; omega
      have hcell2 := hc2 k hlt2
      clear hc hc2
      generalize hx : xs.getD k 0 = x at hcell
      have HX := Lib.hid hx
      clear hx
      generalize hy : ys.getD k 0 = y at hcell2
      have HY := Lib.hid hy
      clear hy
      by_cases hi : x = y
      · subst hi
        have hw' : Hid (∀ j, j < k + 1 → xs.getD j 0 = ys.getD j 0) := Lib.hid (fun j hj => by
          by_cases h : j < k
          · exact hw.out j h
          · obtain rfl : j = k := by omega
            rw [HX.out, HY.out])
        go_wp2
        go_quiet (fail)
        go_wp2
        exact ⟨⟨k + 1, by omega, by go_num, Lib.hid (hfr.out.drewN _), hw'⟩, by simp [intOf]; omega⟩
      · have hne : (x == y) = false := by rw [beq_eq_false_iff_ne]; exact hi
        have hxy : decide (xs = ys) = false := decide_eq_false (fun h => hi (by rw [← HX.out, ← HY.out, h]))
        go_wp2
        go_quiet (fail)
        go_wp2
        go_ret
        rw [hxy]
        exact ⟨rfl, hfr.out.drewN _⟩
    · have hxy : decide (xs = ys) = true := decide_eq_true (List.ext_getElem HL.out (fun j h1 h2 => by have := hw.out j (by omega); simpa [List.getD, h1, h2] using this))
      go_wp2
      go_ret
      rw [hxy]
      exact ⟨rfl, hfr.out⟩

/-- a block of numbers, known whole. -/
def RowB (w : World) (b : Nat) (xs : List Int) : Prop := w.heap[b]? = some (.cells (xs.map (Value.int .i64)).toArray 3 (0, 0))
theorem RowB.lt {w : World} {b : Nat} {xs : List Int} (h : RowB w b xs) : b < w.heap.size := lt_of_block h
theorem RowB.fr {w w' : World} {S : Nat → Prop} {b : Nat} {xs : List Int} (h : RowB w b xs) (hf : Fr S w w') (hs : ¬ S b) : RowB w' b xs := (hf.block _ h.lt hs).trans h
theorem RowB.cell {w : World} {b : Nat} {xs : List Int} (h : RowB w b xs) {j : Nat} (hj : j < xs.length) : w.cell? ⟨b, j, none⟩ = some (.int .i64 (xs.getD j 0)) := by
  rw [cellOf h j]
  simp [getD_lt xs 0 hj, hj]
theorem RowB.free {w : World} {b : Nat} {xs : List Int} (h : RowB w b xs) (j : Nat) : w.frozen? ⟨b, j, none⟩ = false := freeOf h j
theorem RowB.set {w : World} {b : Nat} {xs : List Int} (h : RowB w b xs) (j : Nat) (x : Int) : RowB (w.setCell ⟨b, j, none⟩ (.int .i64 x)) b (xs.set j x) := by
  refine (setOf' h j _).trans ?_
  simp [List.map_set]
/-- the first numbers of such a block. -/
theorem RowB.ints {w : World} {b : Nat} {xs ys : List Int} (h : RowB w b (xs ++ ys)) : IntsAt w (some ⟨b, 0, none⟩) xs := by
  refine .inr ⟨b, 0, rfl, h.lt, fun j hj => ?_⟩
  rw [Nat.zero_add, h.cell (by simp; omega)]
  simp [List.getD, List.getElem?_append_left hj]

def lentL (xs : List Int) (k : Nat) : List Int := xs ++ (List.replicate k (-77) ++ List.replicate (4 - k) 0)
theorem lentL_length (xs : List Int) (k : Nat) (h : k ≤ 4) : (lentL xs k).length = xs.length + 4 := by simp [lentL]; omega
theorem lentL_succ (xs : List Int) (k : Nat) (h : k < 4) : (lentL xs k).set (xs.length + k) (-77) = lentL xs (k + 1) := by
  unfold lentL
  rw [List.set_append_right _ _ (by omega)]
  congr 1
  rw [show xs.length + k - xs.length = k by omega]
  rcases (by omega : k = 0 ∨ k = 1 ∨ k = 2 ∨ k = 3) with h | h | h | h <;> subst h <;> rfl
theorem lentL_get (xs : List Int) (k : Nat) (h : k < 4) : (lentL xs 4).getD (xs.length + k) 0 = -77 := by
  unfold lentL
  rw [List.getD, List.getElem?_append_right (by omega), show xs.length + k - xs.length = k by omega]
  rcases (by omega : k = 0 ∨ k = 1 ∨ k = 2 ∨ k = 3) with h | h | h | h <;> subst h <;> rfl

set_option maxRecDepth 100000 in
set_option maxHeartbeats 2000000 in
theorem lent_any (xs : List Int) (A : Option Addr) (c : Nat) (w : World) (hA : IntsAt w A xs) (hl : xs.length ≤ 1099511627776) :
    Calls Tryz.prog 55 #[.slice A xs.length c] w fun r w' => r = .returned (.slice (some ⟨w.heap.size, 0, none⟩) (xs.length + 4) (xs.length + 4)) ∧ Fr (fun _ => False) w w' ∧ RowB w' w.heap.size (lentL xs 4) := by
  obtain ⟨i0, hi, hz0, hz1, hz2⟩ := info_parts Tryz.infoInt
  have HA := Lib.hid hA
  clear hA
  go_enter Tryz.func55, Tryz.ntmps55
  go_wp2_with (at_make; refine wpList_make_full _ rfl _ _ 24 rfl w.heap.size 3 i0 (.int .i64 0) 1 Tryz.underlying24 hi hz0 hz1 .i64 .i64 ((xs.length : Int) + 4) ((xs.length : Int) + 4) (xs.length + 4) rfl rfl (by omega) (by omega) (by rw [hz2]; omega) (by unfold maxLen; omega) (Nat.le_refl _) ?_)
  intro w1 hown hgrow
  have hbel : Below w.heap.size w w1 := (Below.refl _ _).grown hgrow (Nat.le_refl _) (fun k e => by cases e)
  have hrow : RowB w1 w.heap.size (List.replicate (xs.length + 4) 0) := by
    obtain ⟨g, cap, cur, hv, hb, hg, hnc, hcm, hcs, htake⟩ := hown.2.resolve_left (by rintro ⟨h, _⟩; cases h)
    injection hv with ha hl2 hc2
    injection ha with ha
    injection ha with ha
    subst ha
    subst hc2
    refine hg.trans ?_
    congr 2
    apply Array.toList_inj.1
    have e1 : cur.toList.take ((xs.length + 4) * 1) = cur.toList := List.take_of_length_le (by simp; omega)
    rw [← e1, htake]
    apply List.ext_getElem
    · simp [madeCells, Value.cells]
    · intro i h1 h2
      simp [madeCells, Value.cells, Nat.mod_one]
  have HB := Lib.hid hbel
  have HR : Hid (w1.heap[w.heap.size]? = some (.cells ((List.replicate (xs.length + 4) (0 : Int)).map (Value.int .i64)).toArray 3 (0, 0))) := Lib.hid hrow
  have hA1 : IntsAt w1 A xs := HA.out.fr (Fr.ofBelow (S := fun _ => False) hbel) (fun _ _ h => h)
  clear hown hgrow hbel hrow
  have hsrc : 0 < (xs.map (Value.int .i64)).length → some (⟨w.heap.size, 0, none⟩ : Addr) = some ⟨w.heap.size, 0, none⟩ ∧ ∃ ad, A = some ad ∧ ∀ (j : Nat) v, (xs.map (Value.int .i64))[j]? = some v → w1.cell? (ad.add j) = some v := by
    intro hp
    rcases hA1 with h0 | ⟨b, off, rfl, _, hc⟩
    · subst h0; exact absurd hp (by simp)
    · refine ⟨rfl, _, rfl, fun j v hj => ?_⟩
      have hjl : j < xs.length := by have := (List.getElem?_eq_some_iff.1 hj).1; simpa using this
      have := hc j hjl
      rw [getD_lt xs 0 hjl] at this
      rw [List.getElem?_map, List.getElem?_eq_getElem hjl] at hj
      have hv : v = Value.int .i64 xs[j] := by simpa using hj.symm
      rw [hv]
      rw [Go.WideShapes.add_plain]
      exact this
  have HS := Lib.hid hsrc
  clear hsrc hA1
  go_wp2_with (with_reducible refine wpList_copy_splice rfl (.tmp 9) (.tmp 10) 24 24 rfl 3 Tryz.underlying24 (by rw [hi]; simp [hz1]) (some ⟨w.heap.size, 0, none⟩) A (xs.length + 4) (xs.length + 4) xs.length c rfl rfl w.heap.size 0 ((List.replicate (xs.length + 4) (0 : Int)).map (Value.int .i64)) 3 HR.out (xs.map (Value.int .i64)) ?c1 HS.out ?c3 ?c4 w.heap.size w HB.out (Nat.le_refl _) ?_)
  case c4 => intro v hv; rfl
  intro w2 hr2 hb2
  have e0 : splice (List.replicate (xs.length + 4) (Value.int .i64 0)) 0 (xs.map (Value.int .i64)) = (lentL xs 0).map (Value.int .i64) := by
    simp [splice, lentL]
  have HR2 : Hid (RowB w2 w.heap.size (lentL xs 0)) := Lib.hid (by rw [e0] at hr2; exact hr2.out)
  have HB2 := Lib.hid hb2
  clear hr2 hb2 e0
  go_wp2
  go_loopw [4] (fun i wr => ∃ k : Nat, k ≤ 4 ∧ i = .int .i64 ((xs.length : Int) + k) ∧ Hid (RowB wr w.heap.size (lentL xs k)) ∧ Hid (Below w.heap.size w wr)) (fun i _ => xs.length + 4 - (intOf i).toNat)
  case atStart => exact ⟨0, Nat.zero_le _, by simp, HR2, HB2⟩
  case round =>
    obtain ⟨k, hk, rfl, hr, hb⟩ := hrel
    clear HR2 HB2 HS HR HB
    have hz : w.heap.size < wr.heap.size := hr.out.lt
    by_cases hlt : k < 4
    · have hc := hr.out.cell (j := xs.length + k) (by rw [lentL_length _ _ hk]; omega)
      have hfz := hr.out.free (xs.length + k)
      have hi1 : ((xs.length : Int) + k).toNat = xs.length + k := by omega
      generalize (lentL xs k).getD (xs.length + k) 0 = x at hc
      have hset := hr.out.set (xs.length + k) (-77)
      rw [lentL_succ xs k hlt] at hset
      have HSet := Lib.hid hset
      clear hset
      go_wp2
      exact ⟨⟨k + 1, by omega, by go_num, Lib.hid HSet.out, Lib.hid (hb.out.setCell (Nat.le_refl _) _)⟩, by simp [intOf]; omega⟩
    · obtain rfl : k = 4 := by omega
      go_wp2
      go_ret
      exact ⟨rfl, Fr.ofBelow hb.out, hr.out⟩

set_option maxRecDepth 100000 in
set_option maxHeartbeats 2000000 in
theorem whole_any (xs : List Int) (A : Option Addr) (c b : Nat) (w : World) (hA : IntsAt w A xs) (hB : RowB w b (lentL xs 4)) (hd : ∀ a, A = some a → a.block ≠ b) (hl : xs.length ≤ 1099511627776) :
    Calls Tryz.prog 57 #[.slice (some ⟨b, 0, none⟩) (xs.length + 4) (xs.length + 4), .slice A xs.length c] w fun r w' => r = .returned (.bool true) ∧ Fr (fun k => k = b) w w' := by
  have hI := ints_any xs xs (some ⟨b, 0, none⟩) A (xs.length + 4) c w hB.ints hA hl
  rw [show decide (xs = xs) = true from decide_eq_true rfl] at hI
  have HI := Lib.hid hI
  clear hI
  have HB := Lib.hid hB
  clear hA hB hd
  go_enter Tryz.func57, Tryz.ntmps57
  go_wp2_with (go_at_call 68; refine HI.out.mono ?_; rintro e w1 ⟨rfl, hf1⟩)
  have HB1 := Lib.hid (HB.out.fr hf1 id)
  have HF1 := Lib.hid (hf1.mono (S' := fun k => k = b) (fun _ _ h => h.elim))
  clear hf1
  go_loopw [5, 6] (fun t i wr => ∃ k : Nat, k ≤ 4 ∧ t = .bool true ∧ i = .int .i64 ((xs.length : Int) + k) ∧ Hid (RowB wr b (lentL xs 4)) ∧ Hid (Fr (fun k => k = b) w wr)) (fun _ i _ => xs.length + 4 - (intOf i).toNat)
  case atStart => exact ⟨0, Nat.zero_le _, rfl, by simp, HB1, HF1⟩
  case round =>
    obtain ⟨k, hk, rfl, rfl, hr, hf⟩ := hrel
    clear HB1 HF1 HB
    have hz : b < wr.heap.size := hr.out.lt
    by_cases hlt : k < 4
    · have hc := hr.out.cell (j := xs.length + k) (by rw [lentL_length _ _ (Nat.le_refl _)]; omega)
      have hi1 : ((xs.length : Int) + k).toNat = xs.length + k := by omega
      rw [lentL_get xs k hlt] at hc
      go_wp2
      exact ⟨⟨k + 1, by omega, rfl, by go_num, hr, hf⟩, by simp [intOf]; omega⟩
    · obtain rfl : k = 4 := by omega
      have hrow : ∃ cur : Array Value, cur.size = xs.length + 4 ∧ wr.heap[b]? = some (.cells cur 3 (0, 0)) := ⟨_, by rw [List.size_toArray, List.length_map, lentL_length _ _ (Nat.le_refl _)], hr.out⟩
      have HR := Lib.hid hrow
      clear hr hrow
      go_wp2
      go_loopw [7] (fun i wr2 => ∃ k : Nat, k ≤ xs.length + 4 ∧ i = .int .i64 k ∧ Hid (∃ cur : Array Value, cur.size = xs.length + 4 ∧ wr2.heap[b]? = some (.cells cur 3 (0, 0))) ∧ Hid (Fr (fun k => k = b) w wr2)) (fun i _ => xs.length + 4 - (intOf i).toNat)
      case atStart => exact ⟨0, Nat.zero_le _, rfl, HR, hf⟩
      case round =>
        obtain ⟨k, hk, rfl, hr, hf⟩ := hrel
        clear HR
        by_cases hlt : k < xs.length + 4
        · obtain ⟨cur, hcs, hcb⟩ := hr.out
          have hz : b < _ := lt_of_block hcb
          have hc := cellOf hcb k
          have hkc : k < cur.size := by omega
          rw [Array.getElem?_eq_getElem hkc] at hc
          have hfz := freeOf hcb k
          generalize cur[k] = x at hc
          have HSet := Lib.hid (setOf' hcb k (.int .i64 4))
          clear hcb
          go_wp2
          exact ⟨⟨k + 1, by omega, by go_num, Lib.hid ⟨_, by simpa using hcs, HSet.out⟩, Lib.hid (hf.out.setCell (.inl rfl) _)⟩, by simp [intOf]; omega⟩
        · go_wp2
          go_ret
          exact ⟨rfl, hf.out⟩
end Go.Proofs.YtbegjpmifcnieaaGreatDoor
