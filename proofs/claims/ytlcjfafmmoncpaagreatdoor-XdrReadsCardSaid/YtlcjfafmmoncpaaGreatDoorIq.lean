/- callboxlaw02.XdrReads, walked. -/
import Derived.Test.YtlcjfafmmoncpaaGreatDoorIp
import Derived.Test.YtlcjfafmmoncpaaGreatDoorFv
namespace Go.Proofs.YtlcjfafmmoncpaaGreatDoor
open Go.RowKit
set_option linter.unusedVariables false
set_option linter.unusedSimpArgs false

/-- both pairs of Readers behind a call. -/
def bothR (p : RSt × RSt) (o : OpM) : RSt × RSt := if o.other = true then (p.1, p.2.readsS o) else (p.1.readsS o, p.2)
/-- two pairs of Readers since the world w0. -/
structure Rz (w0 : World) (b1 c1 b2 c2 : Nat) (w : World) (p : RSt × RSt) : Prop where
  fr : Fr (fun _ => False) w0 w
  one : Ry w b1 c1 p.1
  two : Ry w b2 c2 p.2
  ne : b1 ≠ b2 ∧ b1 ≠ c2 ∧ c1 ≠ b2 ∧ c1 ≠ c2
  late : w0.heap.size ≤ b1 ∧ w0.heap.size ≤ c1 ∧ w0.heap.size ≤ b2 ∧ w0.heap.size ≤ c2
section
variable {w0 w : World} {b1 c1 b2 c2 : Nat} {p : RSt × RSt}
theorem Rz.quiet {w' : World} (h : Rz w0 b1 c1 b2 c2 w p) (hf : Fr (fun _ => False) w w') : Rz w0 b1 c1 b2 c2 w' p :=
  ⟨h.fr.trans hf, h.one.fr hf id id, h.two.fr hf id id, h.ne, h.late⟩
theorem Rz.swap (h : Rz w0 b1 c1 b2 c2 w p) : Rz w0 b2 c2 b1 c1 w (p.2, p.1) :=
  ⟨h.fr, h.two, h.one, ⟨h.ne.1.symm, h.ne.2.2.1.symm, h.ne.2.1.symm, h.ne.2.2.2.symm⟩, ⟨h.late.2.2.1, h.late.2.2.2, h.late.1, h.late.2.1⟩⟩
theorem Rz.rd1 (h : Rz w0 b1 c1 b2 c2 w p) (o : OpM) :
    Calls Tryz.prog 20 #[.pointer (some ⟨b1, 0, none⟩), .pointer (some ⟨c1, 0, none⟩), .agg (opCells o)] w fun r w' => r = .returned (.bool true) ∧ Rz w0 b1 c1 b2 c2 w' (p.1.readsS o, p.2) := by
  refine (reads_any o w h.one).mono ?_
  rintro r w' ⟨hr, hf, hy⟩
  obtain ⟨n1, n2, n3, n4⟩ := h.ne
  exact ⟨hr, h.fr.then hf (fun i hi hs => by have := h.late; omega), hy, h.two.fr hf (fun hc => hc.elim (fun e => n1 e.symm) (fun e => n3 e.symm)) (fun hc => hc.elim (fun e => n2 e.symm) (fun e => n4 e.symm)), h.ne, h.late⟩
theorem Rz.rd2 (h : Rz w0 b1 c1 b2 c2 w p) (o : OpM) :
    Calls Tryz.prog 20 #[.pointer (some ⟨b2, 0, none⟩), .pointer (some ⟨c2, 0, none⟩), .agg (opCells o)] w fun r w' => r = .returned (.bool true) ∧ Rz w0 b1 c1 b2 c2 w' (p.1, p.2.readsS o) :=
  (h.swap.rd1 o).mono fun _ _ hh => ⟨hh.1, hh.2.swap⟩
end

set_option maxRecDepth 100000 in
set_option maxHeartbeats 4000000 in
theorem XdrReads_in (s t : ByteArray) (l : List OpM) (A : Option Addr) (c : Nat) (w : World) (hg : ErrT w) (h : OpsAt w A l) (hA : ∀ a, A = some a → a.block < w.heap.size)
    (hle : addsM (addsM s.size t.size) l.length ≤ 2147483647) :
    Calls Tryz.prog 5 #[.string s, .string t, .slice A l.length c] w fun r w' => r = .returned (.bool true) ∧ Fr (fun _ => False) w w' := by
  have h0 : (0 : Int) ≤ addsM s.size t.size := addsM_nonneg (by omega) (by omega)
  have hs1 := addsM_le hle
  have hs2 := addsM_le (n := s.size) (m := t.size) (by omega)
  have hsz : s.size ≤ 2147483647 := by omega
  have htz : t.size ≤ 2147483647 := by omega
  have hll : l.length ≤ 2147483647 := by omega
  have HG := Lib.hid hg
  have HO := Lib.hid h
  have HA1 := Lib.hid (addsUp_same (s.size : Int) (t.size : Int) w (by omega) (by omega))
  have HA2 := Lib.hid (addsUp_same (addsM s.size t.size) (l.length : Int) w h0 (by omega))
  have HAw := Lib.hid (awake02_any w hg)
  have HR1 := Lib.hid (fun w' => RNew_any s w' (by omega))
  have HR2 := Lib.hid (fun w' => RNew_any t w' (by omega))
  have HX1 := Lib.hid (fun w' => rRNew_any s w' (by omega))
  have HX2 := Lib.hid (fun w' => rRNew_any t w' (by omega))
  have HA := Lib.hid hA
  clear hg h h0 hA hs1 hs2
  generalize hp0 : ((⟨s, 0⟩, ⟨t, 0⟩) : RSt × RSt) = p0 at *
  have HP0 := Lib.hid hp0
  generalize addsM s.size t.size = n1 at *
  have HN := Lib.hid hle
  generalize addsM n1 l.length = n2 at *
  clear hp0
  go_enter Tryz.func5, Tryz.ntmps5
  go_wp2_with fail
  refine HA1.out.mono ?_
  rintro e w' ⟨rfl, hw⟩
  obtain rfl : w = w' := hw.symm
  go_wp2_with fail
  refine HA2.out.mono ?_
  rintro e w' ⟨rfl, hw⟩
  obtain rfl : w = w' := hw.symm
  go_wp2_with fail
  refine HAw.out.mono ?_
  rintro e w1 ⟨rfl, hf1⟩
  have HF1 := Lib.hid hf1
  clear hf1
  go_wp2_with fail
  refine (HR1.out w1).mono ?_
  rintro e w2 ⟨rfl, hf2, hv⟩
  have HV2 := Lib.hid hv
  have HF2 := Lib.hid hf2
  have l2 := hv.lt
  clear hf2 hv
  go_wp2_with fail
  refine (HR2.out w2).mono ?_
  rintro e w3 ⟨rfl, hf3, hw3⟩
  have HV3 := Lib.hid (HV2.out.fr hf3 id)
  have HW3 := Lib.hid hw3
  have HF3 := Lib.hid (HF2.out.trans hf3)
  have l3 := hw3.lt
  clear hf3 hw3 HV2 HF2
  go_wp2_with fail
  refine (HX1.out w3).mono ?_
  rintro e w4 ⟨rfl, hf4, hx4⟩
  have HV4 := Lib.hid (HV3.out.fr hf4 id)
  have HW4 := Lib.hid (HW3.out.fr hf4 id)
  have HX4 := Lib.hid hx4
  have HF4 := Lib.hid (HF3.out.trans hf4)
  have l4 := hx4.lt
  clear hf4 hx4 HV3 HW3 HF3
  go_wp2_with fail
  refine (HX2.out w4).mono ?_
  rintro e w5 ⟨rfl, hf5, hy5⟩
  have HZ := Lib.hid (show Rz w1 w1.heap.size w3.heap.size w2.heap.size w4.heap.size w5 p0 from ⟨HF4.out.trans hf5, by
      rw [← HP0.out]; exact ⟨HV4.out.fr hf5 id, HX4.out.fr hf5 id, by omega⟩, by
      rw [← HP0.out]; exact ⟨HW4.out.fr hf5 id, hy5, by omega⟩, by omega, by omega⟩)
  have HO5 := Lib.hid (HO.out.fr HF1.out (fun a ha => ⟨HA.out a ha, id⟩))
  have HA1 := Lib.hid (fun a ha => Nat.lt_of_lt_of_le (HA.out a ha) HF1.out.size)
  have HG1 := Lib.hid (HG.out.fr HF1.out id)
  clear hf5 hy5 HV4 HW4 HX4 HF4 HO HAw HR1 HR2 HX1 HX2 HP0 l2 l3 l4 HA2
  go_wp2_with fail
  go_loopw [12, 13] (fun i x wr => ∃ k : Nat, k ≤ l.length ∧ i = .int .i64 k ∧ (∃ v : Value, x = v) ∧ Hid (Rz w1 w1.heap.size w3.heap.size w2.heap.size w4.heap.size wr ((l.take k).foldl bothR p0))) (fun i _ _ => l.length - (intOf i).toNat)
  case atStart => exact ⟨0, Nat.zero_le _, rfl, ⟨_, rfl⟩, Lib.hid (by simpa using HZ.out)⟩
  case round =>
    obtain ⟨k, hk, rfl, ⟨v13, rfl⟩, HW⟩ := hrel
    clear HZ
    by_cases hlt : k < l.length
    · have hoW := HO5.out.fr HW.out.fr (fun a ha => ⟨HA1.out a ha, id⟩)
      obtain ⟨g, off, rfl, hc⟩ := hoW.cell k hlt
      rw [getD_lt l _ hlt] at hc
      have Ht := Lib.hid (show (l.take (k + 1)).foldl bothR p0 = bothR ((l.take k).foldl bothR p0) l[k] by rw [take_succ_get l k hlt, List.foldl_append]; rfl)
      generalize l[k] = o at *
      generalize (l.take k).foldl bothR p0 = p at *
      have c0 : wr.cell? ⟨g, off + k * 7, none⟩ = some (.int .i64 o.kind) := hc 0 (by decide)
      have c1 : wr.cell? ⟨g, off + k * 7 + 1, none⟩ = some (.int .i64 o.n) := hc 1 (by decide)
      have c2 : wr.cell? ⟨g, off + k * 7 + 2, none⟩ = some (.int .i64 o.m) := hc 2 (by decide)
      have c3 : wr.cell? ⟨g, off + k * 7 + 3, none⟩ = some (.bool o.other) := hc 3 (by decide)
      have c4 : wr.cell? ⟨g, off + k * 7 + 4, none⟩ = some (.string o.s) := hc 4 (by decide)
      have c5 : wr.cell? ⟨g, off + k * 7 + 5, none⟩ = some (.int .u32 o.single) := hc 5 (by decide)
      have c6 : wr.cell? ⟨g, off + k * 7 + 6, none⟩ = some (.int .u64 o.double) := hc 6 (by decide)
      clear hc hoW
      have HC1 := Lib.hid (HW.out.rd1 o)
      have HC2 := Lib.hid (HW.out.rd2 o)
      unfold opCells at HC1 HC2
      have hb : bothR p o = if o.other = true then (p.1, p.2.readsS o) else (p.1.readsS o, p.2) := rfl
      have key : o.other = true ∨ o.other = false := by cases o.other <;> simp
      generalize ho1 : o.other = ot at *
      clear ho1
      rcases key with rfl | rfl
      · have HB : Hid (bothR p o = (p.1, p.2.readsS o)) := Lib.hid (hb.trans (if_pos rfl))
        clear hb
        go_wp2_with fail
        refine HC2.out.mono ?_
        rintro e w6 ⟨rfl, hz6⟩
        rw [← HB.out] at hz6
        have HZ6 := Lib.hid hz6
        clear hz6 HC1 HC2 c0 c1 c2 c3 c4 c5 c6
        go_wp2_with fail
        refine (RLeft_any w6 HZ6.out.one.rd).mono ?_
        rintro e w' ⟨rfl, hw⟩
        obtain rfl : w6 = w' := hw
        go_wp2_with fail
        refine (yLeft_any w6 HZ6.out.one.rr).mono ?_
        rintro e w' ⟨rfl, hw⟩
        obtain rfl : w6 = w' := hw
        go_wp2_with fail
        refine (RLeft_any w6 HZ6.out.two.rd).mono ?_
        rintro e w' ⟨rfl, hw⟩
        obtain rfl : w6 = w' := hw
        go_wp2_with fail
        refine (yLeft_any w6 HZ6.out.two.rr).mono ?_
        rintro e w' ⟨rfl, hw⟩
        obtain rfl : w6 = w' := hw
        go_wp2_with fail
        refine (RWrong_any w6 HZ6.out.one.rd (HG1.out.fr HZ6.out.fr id)).mono ?_
        rintro e w7 ⟨rfl, hf⟩
        have HZ7 := Lib.hid (HZ6.out.quiet hf)
        clear hf HZ6
        go_wp2_with fail
        refine (rWrong_any w7 HZ7.out.one.rr).mono ?_
        rintro e w' ⟨rfl, hw⟩
        obtain rfl : w7 = w' := hw
        go_wp2_with fail
        refine (RWrong_any w7 HZ7.out.two.rd (HG1.out.fr HZ7.out.fr id)).mono ?_
        rintro e w8 ⟨rfl, hf⟩
        have HZ8 := Lib.hid (HZ7.out.quiet hf)
        clear hf HZ7
        go_wp2_with fail
        refine (rWrong_any w8 HZ8.out.two.rr).mono ?_
        rintro e w' ⟨rfl, hw⟩
        obtain rfl : w8 = w' := hw
        go_wp2_with fail
        refine (RDone_any w8 HZ8.out.one.rd (HG1.out.fr HZ8.out.fr id)).mono ?_
        rintro e w9 ⟨rfl, hf⟩
        have HZ9 := Lib.hid (HZ8.out.quiet hf)
        clear hf HZ8
        go_wp2_with fail
        refine (rRDone_any w9 HZ9.out.one.rr).mono ?_
        rintro e w10 ⟨rfl, hf⟩
        have HZ10 := Lib.hid (HZ9.out.quiet hf)
        clear hf HZ9
        go_wp2_with fail
        refine (RDone_any w10 HZ10.out.two.rd (HG1.out.fr HZ10.out.fr id)).mono ?_
        rintro e w11 ⟨rfl, hf⟩
        have HZ11 := Lib.hid (HZ10.out.quiet hf)
        clear hf HZ10
        go_wp2_with fail
        refine (rRDone_any w11 HZ11.out.two.rr).mono ?_
        rintro e w12 ⟨rfl, hf⟩
        have HZ12 := Lib.hid (HZ11.out.quiet hf)
        clear hf HZ11
        go_wp2_with fail
        go_roundw
        case rel => exact ⟨k + 1, by omega, by go_num, ⟨_, rfl⟩, Lib.hid (by rw [Ht.out]; exact HZ12.out)⟩
        case measure => simp [intOf]; omega
      · have HB : Hid (bothR p o = (p.1.readsS o, p.2)) := Lib.hid (hb.trans (if_neg (by decide)))
        clear hb
        go_wp2_with fail
        refine HC1.out.mono ?_
        rintro e w6 ⟨rfl, hz6⟩
        rw [← HB.out] at hz6
        have HZ6 := Lib.hid hz6
        clear hz6 HC1 HC2 c0 c1 c2 c3 c4 c5 c6
        go_wp2_with fail
        refine (RLeft_any w6 HZ6.out.one.rd).mono ?_
        rintro e w' ⟨rfl, hw⟩
        obtain rfl : w6 = w' := hw
        go_wp2_with fail
        refine (yLeft_any w6 HZ6.out.one.rr).mono ?_
        rintro e w' ⟨rfl, hw⟩
        obtain rfl : w6 = w' := hw
        go_wp2_with fail
        refine (RLeft_any w6 HZ6.out.two.rd).mono ?_
        rintro e w' ⟨rfl, hw⟩
        obtain rfl : w6 = w' := hw
        go_wp2_with fail
        refine (yLeft_any w6 HZ6.out.two.rr).mono ?_
        rintro e w' ⟨rfl, hw⟩
        obtain rfl : w6 = w' := hw
        go_wp2_with fail
        refine (RWrong_any w6 HZ6.out.one.rd (HG1.out.fr HZ6.out.fr id)).mono ?_
        rintro e w7 ⟨rfl, hf⟩
        have HZ7 := Lib.hid (HZ6.out.quiet hf)
        clear hf HZ6
        go_wp2_with fail
        refine (rWrong_any w7 HZ7.out.one.rr).mono ?_
        rintro e w' ⟨rfl, hw⟩
        obtain rfl : w7 = w' := hw
        go_wp2_with fail
        refine (RWrong_any w7 HZ7.out.two.rd (HG1.out.fr HZ7.out.fr id)).mono ?_
        rintro e w8 ⟨rfl, hf⟩
        have HZ8 := Lib.hid (HZ7.out.quiet hf)
        clear hf HZ7
        go_wp2_with fail
        refine (rWrong_any w8 HZ8.out.two.rr).mono ?_
        rintro e w' ⟨rfl, hw⟩
        obtain rfl : w8 = w' := hw
        go_wp2_with fail
        refine (RDone_any w8 HZ8.out.one.rd (HG1.out.fr HZ8.out.fr id)).mono ?_
        rintro e w9 ⟨rfl, hf⟩
        have HZ9 := Lib.hid (HZ8.out.quiet hf)
        clear hf HZ8
        go_wp2_with fail
        refine (rRDone_any w9 HZ9.out.one.rr).mono ?_
        rintro e w10 ⟨rfl, hf⟩
        have HZ10 := Lib.hid (HZ9.out.quiet hf)
        clear hf HZ9
        go_wp2_with fail
        refine (RDone_any w10 HZ10.out.two.rd (HG1.out.fr HZ10.out.fr id)).mono ?_
        rintro e w11 ⟨rfl, hf⟩
        have HZ11 := Lib.hid (HZ10.out.quiet hf)
        clear hf HZ10
        go_wp2_with fail
        refine (rRDone_any w11 HZ11.out.two.rr).mono ?_
        rintro e w12 ⟨rfl, hf⟩
        have HZ12 := Lib.hid (HZ11.out.quiet hf)
        clear hf HZ11
        go_wp2_with fail
        go_roundw
        case rel => exact ⟨k + 1, by omega, by go_num, ⟨_, rfl⟩, Lib.hid (by rw [Ht.out]; exact HZ12.out)⟩
        case measure => simp [intOf]; omega
    · go_wp2_with fail
      go_ret
      exact ⟨rfl, HF1.out.trans HW.out.fr⟩

set_option maxRecDepth 100000 in
theorem XdrReads_any (s t : ByteArray) (l : List OpM) (A : Option Addr) (c : Nat) (w : World) (hg : ErrT w) (_ : s.size ≤ 140737488351232) (_ : t.size ≤ 140737488351232) (h : OpsAt w A l) (hA : ∀ a, A = some a → a.block < w.heap.size) (_ : l.length ≤ 4398046511104) (_ : ∀ o ∈ l, o.Is) :
    Calls Tryz.prog 5 #[.string s, .string t, .slice A l.length c] w fun r w' => r = .returned (.bool true) ∧ Fr (fun _ => False) w w' := by
  by_cases hle : addsM (addsM s.size t.size) l.length ≤ 2147483647
  · exact XdrReads_in s t l A c w hg h hA hle
  · have h0 : (0 : Int) ≤ addsM s.size t.size := addsM_nonneg (by omega) (by omega)
    have HA1 := Lib.hid (addsUp_same (s.size : Int) (t.size : Int) w (by omega) (by omega))
    have HA2 := Lib.hid (addsUp_same (addsM s.size t.size) (l.length : Int) w h0 (by omega))
    clear hg h hA h0
    have hle := Int.not_le.1 hle
    generalize addsM s.size t.size = n1 at *
    generalize addsM n1 l.length = n2 at *
    go_enter Tryz.func5, Tryz.ntmps5
    go_wp2_with fail
    refine HA1.out.mono ?_
    rintro e w' ⟨rfl, hw⟩
    obtain rfl : w = w' := hw.symm
    go_wp2_with fail
    refine HA2.out.mono ?_
    rintro e w' ⟨rfl, hw⟩
    obtain rfl : w = w' := hw.symm
    go_wp2_with fail
    go_ret
    exact ⟨rfl, Fr.refl _ _⟩
end Go.Proofs.YtlcjfafmmoncpaaGreatDoor
