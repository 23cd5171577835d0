/- Package cred: ParseSys. -/
import Derived.Test.YtcndifccbkekhaaGreatDoorCs
import Derived.Test.YtcndifccbkekhaaGreatDoorMc
namespace Go.Proofs.YtcndifccbkekhaaGreatDoor
open Go.RowKit
set_option linter.unusedVariables false
set_option linter.unusedSimpArgs false

theorem IntsAt.ofRow {w : World} {base : Nat} {A : Option Addr} {n c : Nat} {xs : List Int} (h : w.ownsRow base 3 1 (.slice A n c) n (xs.map (Value.int .i64))) : IntsAt w A xs := by
  rcases h.2 with ⟨_, h0⟩ | ⟨g, cap, cur, hv, hb, hg, hn, _⟩
  · left
    have := h.1
    rw [h0] at this
    simpa using this
  · right
    injection hv with ha _ _
    refine ⟨g, 0, ha, lt_of_block hg, fun j hj => ?_⟩
    rw [Nat.zero_add]
    have hc := row_cell h (by rw [ha]; rfl) j (.int .i64 (xs.getD j 0)) (by rw [List.getElem?_map, getD_lt xs 0 hj, List.getElem?_eq_getElem hj]; rfl)
    exact hc

theorem ownsRow_lower {w : World} {base base' e size n : Nat} {v : Value} {xs : List Value} (h : w.ownsRow base e size v n xs) (hb : base' ≤ base) : w.ownsRow base' e size v n xs := by
  refine ⟨h.1, ?_⟩
  rcases h.2 with h | ⟨g, cap, cur, hv, hg, hr⟩
  · exact .inl h
  · exact .inr ⟨g, cap, cur, hv, Nat.le_trans hb hg, hr⟩
theorem ownsRow_set5 {w : World} {base e size n b : Nat} {v : Value} {xs : List Value} (h : w.ownsRow base e size v n xs) (hb : v.ownBlock ≠ some b) (u0 u1 u2 u3 u4 : Value) :
    (((((w.setCell ⟨b, 0, none⟩ u0).setCell ⟨b, 1, none⟩ u1).setCell ⟨b, 2, none⟩ u2).setCell ⟨b, 3, none⟩ u3).setCell ⟨b, 4, none⟩ u4).ownsRow base e size v n xs :=
  ownsRow_setCell_other (ownsRow_setCell_other (ownsRow_setCell_other (ownsRow_setCell_other (ownsRow_setCell_other h hb u0) hb u1) hb u2) hb u3) hb u4
/-- a list of numbers that came out: new, or none. -/
def IntsNew (w0 w : World) (gv : Value) (xs : List Int) : Prop := w.ownsRow w0.heap.size 3 1 gv xs.length (xs.map (Value.int .i64))

def zeroSys : SysM := ⟨0, ByteArray.empty, 0, 0, []⟩
def parseSysM (a : AuthM) : SysM × Int :=
  if a.flavor = 1 then (if (RSt.sysS ⟨a.body, 0⟩).doneV = 0 ∧ namedB (RSt.sysV ⟨a.body, 0⟩) = true then (RSt.sysV ⟨a.body, 0⟩, 0) else (zeroSys, 111)) else (zeroSys, 112)
def sysVv (s : SysM) (gv : Value) : Value := .agg #[.int .i64 s.stamp, .string s.machine, .int .i64 s.user, .int .i64 s.group, gv]

set_option maxRecDepth 100000 in
set_option maxHeartbeats 4000000 in
theorem ParseSys_any (a : AuthM) (w : World) (hg : ErrT w) (hs : a.body.size ≤ 140737488351232) :
    Calls Tryz.prog 25 #[authV a] w fun r w' => Fr (fun _ => False) w w' ∧ ∃ gv, r = .returned (.tuple #[sysVv (parseSysM a).1 gv, .int .i64 (parseSysM a).2]) ∧ IntsNew w w' gv (parseSysM a).1.groups := by
  have HG := Lib.hid hg
  have hx1 := Lib.hid (heap_two (w := w) (a := .cells #[.int .i64 a.flavor, .string a.body] 23) (b := .cells #[.int .i64 0, .string ByteArray.empty, .int .i64 0, .int .i64 0, .slice none 0 0] 36))
  clear hg
  unfold authV
  by_cases hf : a.flavor = 1
  · have hb : (a.flavor != 1) = false := by rw [bne_eq_false_iff_eq]; exact hf
    have hP : parseSysM a = if (RSt.sysS ⟨a.body, 0⟩).doneV = 0 ∧ namedB (RSt.sysV ⟨a.body, 0⟩) = true then (RSt.sysV ⟨a.body, 0⟩, 0) else (zeroSys, 111) := if_pos hf
    have HP := Lib.hid hP
    clear hP hf
    have hx0 := Lib.hid (heap_three (w := w) (a := .cells #[.int .i64 a.flavor, .string a.body] 23) (b := .cells #[.int .i64 0, .string ByteArray.empty, .int .i64 0, .int .i64 0, .slice none 0 0] 36) (c := .cells #[.int .i64 0, .string ByteArray.empty, .int .i64 0, .int .i64 0, .slice none 0 0] 100))
    have hx1' := Lib.hid (heap_old (o := .cells #[.int .i64 0, .string ByteArray.empty, .int .i64 0, .int .i64 0, .slice none 0 0] 100) hx1.out)
    have hb3 : Below w.heap.size w (((w.alloc (.cells #[.int .i64 a.flavor, .string a.body] 23)).alloc (.cells #[.int .i64 0, .string ByteArray.empty, .int .i64 0, .int .i64 0, .slice none 0 0] 36)).alloc (.cells #[.int .i64 0, .string ByteArray.empty, .int .i64 0, .int .i64 0, .slice none 0 0] 100)) :=
      (((Below.refl _ _).alloc (Nat.le_refl _) _).alloc (by simp) _).alloc (by simp; omega) _
    have HB := Lib.hid hb3
    clear hb3
    go_enter Tryz.func25, Tryz.ntmps25
    go_wp2_with fail
    refine (RNew_any _ _ hs).mono ?_
    rintro e w1 ⟨rfl, hf1, hR⟩
    have hx0 := hidMove hx0 hf1 id
    have hx1 := hidMove hx1' hf1 id
    have hz1 := hf1.size
    simp only [World.size_alloc] at hR hz1
    go_wp2_with fail
    refine (reads_any (T := 100) [] _ hR hx0.out (by omega)).mono ?_
    rintro e w2 ⟨rfl, hf2, hR2, gv, hN, hO⟩
    have hx1 := hidMove hx1 hf2 (by omega)
    obtain ⟨GA, gc, rfl⟩ := owns_slice hO
    have hfw : Fr (fun _ => False) w w2 := ((Fr.ofBelow HB.out).then hf1 (fun _ _ h => h)).then hf2 (fun i hi h => by omega)
    have HG2 := Lib.hid (HG.out.fr hfw id)
    have hls := hR.lt
    have HN := Lib.hid hN
    have HO := Lib.hid hO
    clear hN hO
    go_wp2_with fail
    refine (RDone_any _ hR2 HG2.out).mono ?_
    rintro e w3 ⟨rfl, hf3⟩
    have hx1 := hidMove hx1 hf3 id
    have HN3 := Lib.hid (HN.out.fr hf3 id)
    have hfw3 := hfw.then hf3 (fun _ _ h => h)
    have hO3 : w3.ownsRow w1.heap.size 3 1 (.slice GA (RSt.sysV ⟨a.body, 0⟩).groups.length gc) _ _ := ownsRow_keep HO.out (fun g e => hf3.block g (HO.out.lt g e).2 id)
    have HA3 := Lib.hid (IntsAt.ofRow hO3)
    have HO3 := Lib.hid hO3
    clear hO3
    obtain ⟨⟨n0, n1, n2, n3, n4⟩, _⟩ := HN3.out.cells
    by_cases hd : (RSt.sysS ⟨a.body, 0⟩).doneV = 0
    · have hd1 : ((RSt.sysS ⟨a.body, 0⟩).doneV != 0) = false := by rw [hd]; rfl
      have HD := Lib.hid hd
      clear hd
      by_cases hn : namedB (RSt.sysV ⟨a.body, 0⟩) = true
      · go_wp2_with (go_at_call 59; refine (named_any (RSt.sysV ⟨a.body, 0⟩) GA gc _ HA3.out).mono ?_; rintro e w4 ⟨rfl, hf4⟩; have HN4 := Lib.hid (HN3.out.fr hf4 id); have hx1 := hidMove hx1 hf4 id; obtain ⟨⟨m0, m1, m2, m3, m4⟩, _⟩ := HN4.out.cells; obtain ⟨s0, s1, s2, s3, s4⟩ := box5 hx1; have t0 := freeOf hx1.out 0; have t1 := freeOf hx1.out 1; have t2 := freeOf hx1.out 2; have t3 := freeOf hx1.out 3; have t4 := freeOf hx1.out 4)
        have hd := HD.out
        have hfw4 := hfw3.then hf4 (fun _ _ h => h)
        have hz4 := hfw4.size
        have hO4 : w4.ownsRow w1.heap.size 3 1 (.slice GA (RSt.sysV ⟨a.body, 0⟩).groups.length gc) _ _ := ownsRow_keep HO3.out (fun g e => hf4.block g (HO3.out.lt g e).2 id)
        have hz1w : w.heap.size + 3 ≤ w1.heap.size := by omega
        refine bodyPost_ret (v := .tuple #[sysVv (RSt.sysV ⟨a.body, 0⟩) (.slice GA (RSt.sysV ⟨a.body, 0⟩).groups.length gc), .int .i64 0]) ?_ rfl ?_
        · simp [results, Tryz.results25, go_sem, sysVv, s0, s1, s2, s3, s4]
        · rw [HP.out, if_pos ⟨hd, hn⟩]
          refine ⟨(((((hfw4).setCell (.inr (by simp)) _).setCell (.inr (by simp)) _).setCell (.inr (by simp)) _).setCell (.inr (by simp)) _).setCell (.inr (by simp)) _, _, rfl, ?_⟩
          unfold IntsNew
          refine ownsRow_set5 (ownsRow_lower hO4 (by omega)) (fun e => ?_) _ _ _ _ _
          have := (hO4.lt _ e).1
          omega
      · have hn' := hn
        rw [Bool.not_eq_true] at hn
        go_wp2_with (go_at_call 59; refine (named_any (RSt.sysV ⟨a.body, 0⟩) GA gc _ HA3.out).mono ?_; rintro e w4 ⟨rfl, hf4⟩; have HN4 := Lib.hid (HN3.out.fr hf4 id); have hx1 := hidMove hx1 hf4 id; obtain ⟨⟨m0, m1, m2, m3, m4⟩, _⟩ := HN4.out.cells; obtain ⟨s0, s1, s2, s3, s4⟩ := box5 hx1; have t0 := freeOf hx1.out 0; have t1 := freeOf hx1.out 1; have t2 := freeOf hx1.out 2; have t3 := freeOf hx1.out 3; have t4 := freeOf hx1.out 4)
        have hd := HD.out
        have hfw4 := hfw3.then hf4 (fun _ _ h => h)
        have hz4 := hfw4.size
        refine bodyPost_ret (v := .tuple #[sysVv zeroSys (.slice none 0 0), .int .i64 111]) ?_ rfl ?_
        · simp [results, Tryz.results25, go_sem, sysVv, zeroSys, s0, s1, s2, s3, s4]
          rfl
        · rw [HP.out, if_neg (by simp [hd, hn])]
          exact ⟨(((((hfw4).setCell (.inr (by simp)) _).setCell (.inr (by simp)) _).setCell (.inr (by simp)) _).setCell (.inr (by simp)) _).setCell (.inr (by simp)) _, _, rfl, World.ownsRow_nil _ _ _ _⟩
    · have hd1 : ((RSt.sysS ⟨a.body, 0⟩).doneV != 0) = true := by rw [bne_iff_ne]; exact hd
      obtain ⟨s0, s1, s2, s3, s4⟩ := box5 hx1
      have t0 := freeOf hx1.out 0
      have t1 := freeOf hx1.out 1
      have t2 := freeOf hx1.out 2
      have t3 := freeOf hx1.out 3
      have t4 := freeOf hx1.out 4
      have HD := Lib.hid hd
      clear hd
      go_wp2
      · have hd := HD.out
        have hn : True := trivial
        have hfw4 := hfw3
        have hz4 := hfw4.size
        refine bodyPost_ret (v := .tuple #[sysVv zeroSys (.slice none 0 0), .int .i64 111]) ?_ rfl ?_
        · simp [results, Tryz.results25, go_sem, sysVv, zeroSys, s0, s1, s2, s3, s4]
          rfl
        · rw [HP.out, if_neg (by simp [hd])]
          exact ⟨(((((hfw4).setCell (.inr (by simp)) _).setCell (.inr (by simp)) _).setCell (.inr (by simp)) _).setCell (.inr (by simp)) _).setCell (.inr (by simp)) _, _, rfl, World.ownsRow_nil _ _ _ _⟩
  · have hb : (a.flavor != 1) = true := by rw [bne_iff_ne]; exact hf
    rw [show parseSysM a = (zeroSys, 112) from if_neg hf]
    clear hf
    go_enter Tryz.func25, Tryz.ntmps25
    go_wp2
    refine bodyPost_ret (v := .tuple #[sysVv zeroSys (.slice none 0 0), .int .i64 112]) ?_ rfl ⟨?_, _, rfl, World.ownsRow_nil _ _ _ _⟩
    · simp [results, Tryz.results25, go_sem, sysVv, zeroSys]
      rfl
    · exact ((Fr.refl _ _).alloc _).alloc _

end Go.Proofs.YtcndifccbkekhaaGreatDoor
