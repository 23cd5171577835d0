/- callboxlaw02.XdrWrites, walked. -/
import Derived.Test.YtlcjfafmmoncpaaGreatDoorIi
import Derived.Test.YtlcjfafmmoncpaaGreatDoorFv
namespace Go.Proofs.YtlcjfafmmoncpaaGreatDoor
open Go.RowKit
set_option linter.unusedVariables false
set_option linter.unusedSimpArgs false

set_option maxRecDepth 100000 in
set_option maxHeartbeats 4000000 in
theorem XdrWrites_in (one two : Int) (l : List OpM) (A : Option Addr) (c : Nat) (w : World) (hg : ErrT w) (h1 : one ≤ 9223372036854775807) (h2 : two ≤ 9223372036854775807) (h : OpsAt w A l) (hA : ∀ a, A = some a → a.block < w.heap.size) (ho : ∀ o ∈ l, o.Is) (hl : l.length ≤ 140737488355328)
    (hle : weighsM l (addsM 0 l.length) ≤ 2147483647) :
    Calls Tryz.prog 4 #[.int .i64 one, .int .i64 two, .slice A l.length c] w fun r w' => r = .returned (.bool true) ∧ Fr (fun _ => False) w w' := by
  have h00 : (0 : Int) ≤ addsM 0 l.length := addsM_nonneg (by omega) (by omega)
  have hs2 := (weighsM_str l _ h00 hle).2
  have hsum := sumW_le l _ h00 hle
  have HS := Lib.hid (show ∀ k, k ≤ l.length → ((l.take k).foldl bothW ((⟨ByteArray.empty, max one 0, 0⟩, ⟨ByteArray.empty, max two 0, 0⟩) : WSt × WSt)).1.out.size ≤ 2147483647 ∧ ((l.take k).foldl bothW ((⟨ByteArray.empty, max one 0, 0⟩, ⟨ByteArray.empty, max two 0, 0⟩) : WSt × WSt)).2.out.size ≤ 2147483647 from fun k hk => by
    have hb := bothW_size (l.take k) ((⟨ByteArray.empty, max one 0, 0⟩, ⟨ByteArray.empty, max two 0, 0⟩) : WSt × WSt)
    have ht : sumW (l.take k) + sumW (l.drop k) = sumW l := by rw [← sumW_append, List.take_append_drop]
    have hz : (ByteArray.empty).size = 0 := rfl
    simp only [hz] at hb
    omega)
  have HG := Lib.hid hg
  have HO := Lib.hid h
  have HIs := Lib.hid ho
  have HS2 := Lib.hid hs2
  have HWe := Lib.hid (weighs_any l A c w h hl ho)
  have HAw := Lib.hid (awake02_any w hg)
  have HW1 := Lib.hid (fun w => WNew_any one w h1)
  have HW2 := Lib.hid (fun w => WNew_any two w h2)
  have HX1 := Lib.hid (fun w => xNew_any one w)
  have HX2 := Lib.hid (fun w => xNew_any two w)
  have HA := Lib.hid hA
  clear hg h h00 hA hsum hs2 ho
  generalize hp0 : ((⟨ByteArray.empty, max one 0, 0⟩, ⟨ByteArray.empty, max two 0, 0⟩) : WSt × WSt) = p0 at *
  have HP0 := Lib.hid hp0
  generalize addsM 0 l.length = n0 at *
  generalize weighsM l n0 = wl at *
  have HN := Lib.hid hle
  clear hp0 h1 h2
  go_enter Tryz.func4, Tryz.ntmps4
  go_wp2_with fail
  refine HWe.out.mono ?_
  rintro e w' ⟨rfl, hw⟩
  obtain rfl : w = w' := hw
  go_wp2_with fail
  refine HAw.out.mono ?_
  rintro e w1 ⟨rfl, hf1⟩
  have HF1 := Lib.hid hf1
  clear hf1
  go_wp2_with fail
  refine (HW1.out w1).mono ?_
  rintro e w2 ⟨rfl, hf2, hv⟩
  have HV2 := Lib.hid hv
  have HF2 := Lib.hid hf2
  have l2 := hv.low _ rfl
  clear hf2 hv
  go_wp2_with fail
  refine (HW2.out w2).mono ?_
  rintro e w3 ⟨rfl, hf3, hw3⟩
  have HV3 := Lib.hid (HV2.out.fr hf3 (fun _ _ => id))
  have HW3 := Lib.hid hw3
  have HF3 := Lib.hid (HF2.out.trans hf3)
  have l3 := hw3.low _ rfl
  clear hf3 hw3 HV2 HF2
  go_wp2_with fail
  refine (HX1.out w3).mono ?_
  rintro e w4 ⟨rfl, hf4, hx4⟩
  have HV4 := Lib.hid (HV3.out.fr hf4 (fun _ _ => id))
  have HW4 := Lib.hid (HW3.out.fr hf4 (fun _ _ => id))
  have HX4 := Lib.hid hx4
  have HF4 := Lib.hid (HF3.out.trans hf4)
  have l4 := hx4.lt
  clear hf4 hx4 HV3 HW3 HF3
  go_wp2_with fail
  refine (HX2.out w4).mono ?_
  rintro e w5 ⟨rfl, hf5, hy5⟩
  have HZ := Lib.hid (show Wz w1 w1.heap.size w3.heap.size w2.heap.size w4.heap.size w5 p0 from ⟨HF4.out.trans hf5, ⟨fun k => k = w1.heap.size, fun k => k = w2.heap.size, by
      rw [← HP0.out]; exact ⟨HV4.out.fr hf5 (fun _ _ => id), HX4.out.fr hf5 id, by omega⟩, by
      rw [← HP0.out]; exact ⟨HW4.out.fr hf5 (fun _ _ => id), hy5, by omega⟩, fun k hk hk2 => by omega, by omega, by omega, fun k hk => by omega⟩, by omega⟩)
  have HF5 := Lib.hid (HF1.out.trans (HF4.out.trans hf5))
  have HO5 := Lib.hid (HO.out.fr HF1.out (fun a ha => ⟨HA.out a ha, id⟩))
  have HA1 := Lib.hid (fun a ha => Nat.lt_of_lt_of_le (HA.out a ha) HF1.out.size)
  have HG1 := Lib.hid (HG.out.fr HF1.out id)
  clear hf5 hy5 HV4 HW4 HX4 HF4 HO HWe HAw HW1 HW2 HX1 HX2 HP0 l2 l3 l4
  go_wp2_with fail
  go_loopw [12, 13, 14] (fun i x y wr => ∃ k : Nat, k ≤ l.length ∧ i = .int .i64 k ∧ (∃ v : Value, x = v) ∧ (∃ v : Value, y = v) ∧ Hid (Wz w1 w1.heap.size w3.heap.size w2.heap.size w4.heap.size wr ((l.take k).foldl bothW p0))) (fun i _ _ _ => l.length - (intOf i).toNat)
  case atStart => exact ⟨0, Nat.zero_le _, rfl, ⟨_, rfl⟩, ⟨_, rfl⟩, Lib.hid (by simpa using HZ.out)⟩
  case round =>
    obtain ⟨k, hk, rfl, ⟨v13, rfl⟩, ⟨v14, rfl⟩, HW⟩ := hrel
    clear HZ
    by_cases hlt : k < l.length
    · have hoW := HO5.out.fr HW.out.fr (fun a ha => ⟨HA1.out a ha, id⟩)
      obtain ⟨g, off, rfl, hc⟩ := hoW.cell k hlt
      rw [getD_lt l _ hlt] at hc
      have Ho := Lib.hid (HIs.out l[k] (List.getElem_mem hlt))
      have Hs := Lib.hid (HS2.out l[k] (List.getElem_mem hlt))
      have Hz := Lib.hid (HS.out k hk)
      have Ht := Lib.hid (show (l.take (k + 1)).foldl bothW p0 = bothW ((l.take k).foldl bothW p0) l[k] by rw [take_succ_get l k hlt, List.foldl_append]; rfl)
      generalize l[k] = o at *
      generalize (l.take k).foldl bothW p0 = p at *
      have c0 : wr.cell? ⟨g, off + k * 7, none⟩ = some (.int .i64 o.kind) := hc 0 (by decide)
      have c1 : wr.cell? ⟨g, off + k * 7 + 1, none⟩ = some (.int .i64 o.n) := hc 1 (by decide)
      have c2 : wr.cell? ⟨g, off + k * 7 + 2, none⟩ = some (.int .i64 o.m) := hc 2 (by decide)
      have c3 : wr.cell? ⟨g, off + k * 7 + 3, none⟩ = some (.bool o.other) := hc 3 (by decide)
      have c4 : wr.cell? ⟨g, off + k * 7 + 4, none⟩ = some (.string o.s) := hc 4 (by decide)
      have c5 : wr.cell? ⟨g, off + k * 7 + 5, none⟩ = some (.int .u32 o.single) := hc 5 (by decide)
      have c6 : wr.cell? ⟨g, off + k * 7 + 6, none⟩ = some (.int .u64 o.double) := hc 6 (by decide)
      clear hc hoW
      have HC1 := Lib.hid (HW.out.one o Ho.out (by have := Hs.out; have := Hz.out.1; omega))
      have HC2 := Lib.hid (HW.out.two o Ho.out (by have := Hs.out; have := Hz.out.2; omega))
      unfold opCells at HC1 HC2
      have hb : bothW p o = if o.other = true then (p.1, p.2.writes o) else (p.1.writes o, p.2) := rfl
      have key : o.other = true ∨ o.other = false := by cases o.other <;> simp
      generalize ho1 : o.other = ot at *
      clear ho1
      rcases key with rfl | rfl
      · have HB : Hid (bothW p o = (p.1, p.2.writes o)) := Lib.hid (hb.trans (if_pos rfl))
        clear hb
        go_wp2_with fail
        refine HC2.out.mono ?_
        rintro e w6 ⟨rfl, hz6⟩
        rw [← HB.out] at hz6
        have HZ6 := Lib.hid hz6
        clear hz6 HC1 HC2 c0 c1 c2 c3 c4 c5 c6
        go_wp2_with fail
        refine (HZ6.out.wr1 HG1.out).mono ?_
        rintro e w7 ⟨rfl, hz7⟩
        have HZ7 := Lib.hid hz7
        clear hz7 HZ6
        go_wp2_with fail
        refine (HZ7.out.wr2 HG1.out).mono ?_
        rintro e w8 ⟨rfl, hz8⟩
        have HZ8 := Lib.hid hz8
        clear hz8 HZ7
        go_wp2_with fail
        go_roundw
        case rel => exact ⟨k + 1, by omega, by go_num, ⟨_, rfl⟩, ⟨_, rfl⟩, Lib.hid (by rw [Ht.out]; exact HZ8.out)⟩
        case measure => simp [intOf]; omega
      · have HB : Hid (bothW p o = (p.1.writes o, p.2)) := Lib.hid (hb.trans (if_neg (by decide)))
        clear hb
        go_wp2_with fail
        refine HC1.out.mono ?_
        rintro e w6 ⟨rfl, hz6⟩
        rw [← HB.out] at hz6
        have HZ6 := Lib.hid hz6
        clear hz6 HC1 HC2 c0 c1 c2 c3 c4 c5 c6
        go_wp2_with fail
        refine (HZ6.out.wr1 HG1.out).mono ?_
        rintro e w7 ⟨rfl, hz7⟩
        have HZ7 := Lib.hid hz7
        clear hz7 HZ6
        go_wp2_with fail
        refine (HZ7.out.wr2 HG1.out).mono ?_
        rintro e w8 ⟨rfl, hz8⟩
        have HZ8 := Lib.hid hz8
        clear hz8 HZ7
        go_wp2_with fail
        go_roundw
        case rel => exact ⟨k + 1, by omega, by go_num, ⟨_, rfl⟩, ⟨_, rfl⟩, Lib.hid (by rw [Ht.out]; exact HZ8.out)⟩
        case measure => simp [intOf]; omega
    · go_wp2_with fail
      go_ret
      exact ⟨rfl, HF1.out.trans HW.out.fr⟩

set_option maxRecDepth 100000 in
theorem XdrWrites_any (one two : Int) (l : List OpM) (A : Option Addr) (c : Nat) (w : World) (hg : ErrT w) (h1 : -9223372036854775808 ≤ one ∧ one ≤ 9223372036854775807) (h2 : -9223372036854775808 ≤ two ∧ two ≤ 9223372036854775807) (h : OpsAt w A l) (hA : ∀ a, A = some a → a.block < w.heap.size) (hl : l.length ≤ 4398046511104) (ho : ∀ o ∈ l, o.Is) :
    Calls Tryz.prog 4 #[.int .i64 one, .int .i64 two, .slice A l.length c] w fun r w' => r = .returned (.bool true) ∧ Fr (fun _ => False) w w' := by
  by_cases hle : weighsM l (addsM 0 l.length) ≤ 2147483647
  · exact XdrWrites_in one two l A c w hg h1.2 h2.2 h hA ho (Nat.le_trans hl (by decide)) hle
  · have HWe := Lib.hid (weighs_any l A c w h (Nat.le_trans hl (by decide)) ho)
    clear hg h ho hA
    have hle := Int.not_le.1 hle
    generalize addsM 0 l.length = n0 at *
    generalize weighsM l n0 = wl at *
    go_enter Tryz.func4, Tryz.ntmps4
    go_wp2_with fail
    refine HWe.out.mono ?_
    rintro e w' ⟨rfl, hw⟩
    obtain rfl : w = w' := hw
    go_wp2_with fail
    go_ret
    exact ⟨rfl, Fr.refl _ _⟩
end Go.Proofs.YtlcjfafmmoncpaaGreatDoor
