/- A client: Waiting, Guess. -/
import Derived.Test.YtbegjpmifcnieaaGreatDoorQc
import Derived.OwnWalk
import Derived.Test.YtbegjpmifcnieaaGreatDoorQl
import Derived.Test.YtbegjpmifcnieaaGreatDoorEd
import Derived.Test.YtbegjpmifcnieaaGreatDoorBi
namespace Go.Proofs.YtbegjpmifcnieaaGreatDoor
open Go.RowKit
set_option linter.unusedVariables false
set_option linter.unusedSimpArgs false

theorem Guess_any {w : World} {b : Nat} {S : CliS} (h : Cli w b S) (hm : S.met.Ok) : Calls Tryz.prog 71 #[.pointer (some ⟨b, 0, none⟩)] w fun r w' => r = .returned (.int .i64 S.met.guess) ∧ w' = w := by
  have n16 : w.cell? ⟨b, 16, none⟩ = some (.pointer (some ⟨S.m, 0, none⟩)) := cellOf h.box 16
  have HG := Lib.hid (MGuess_any (b := S.m) (m := S.met) h.rest.met hm)
  clear h hm
  go_enter Tryz.func71, Tryz.ntmps71
  go_wp2_with fail
  refine HG.out.mono ?_
  rintro e w' ⟨rfl, rfl⟩
  go_wp2_with fail
  go_ret
  exact ⟨rfl, rfl⟩

def seqRow (l : List CallR) : List Value := l.map fun r => .int .i64 r.seq
set_option maxRecDepth 100000 in
set_option maxHeartbeats 1000000 in
theorem Waiting_any {w : World} {b : Nat} {S : CliS} (h : Cli w b S) (hl : S.calls.length ≤ 1099511627776) :
    Calls Tryz.prog 66 #[.pointer (some ⟨b, 0, none⟩)] w fun e w' => ∃ v, e = .returned v ∧ w'.ownsRow w.heap.size 3 1 v S.calls.length (seqRow S.calls) ∧ Fr (fun _ => False) w w' := by
  have n14 := h.c14
  obtain ⟨A, c, ev, hrow⟩ := h.row
  rw [ev] at n14
  have HH := Lib.hid h
  have HR := Lib.hid hrow
  have HV := Lib.hid ev
  have HZ := Lib.hid (lt_of_block h.box)
  clear h ev hrow
  obtain ⟨i0, hi, hz0, hz1, hz2⟩ := info_parts Tryz.infoInt
  go_enter Tryz.func66, Tryz.ntmps66
  go_wp2_with (at_make; refine wpList_make_own _ rfl _ _ 24 rfl w.heap.size 3 i0 (.int .i64 0) 1 Tryz.underlying24 hi hz0 hz1 .i64 .i64 (S.calls.length : Int) S.calls.length rfl rfl rfl (by rw [hz2]; omega) (by unfold maxLen; omega) (Nat.le_refl _) ?_; intro w1 hown1 hgrow1; have HF1 := Lib.hid (show Fr (fun _ => False) w w1 from (Fr.refl _ w).grown hgrow1 (fun k e => by cases e)); have HO1 := Lib.hid hown1; have n14' : w1.cell? ⟨b, 14, none⟩ = some (.slice A S.calls.length c) := (World.cell?_of_block (w := w) (HF1.out.block _ HZ.out id)).trans n14; clear hown1 hgrow1 n14)
  go_loopw [3, 5, 17] (fun o x i wr => ∃ k : Nat, k ≤ S.calls.length ∧ i = .int .i64 k ∧ (∃ v : Value, x = v) ∧ Hid (wr.ownsRow w.heap.size 3 1 o k (seqRow (S.calls.take k)) ∧ Fr (fun _ => False) w wr)) (fun _ _ i _ => S.calls.length - (intOf i).toNat)
  case atStart => exact ⟨0, Nat.zero_le _, rfl, ⟨_, rfl⟩, Lib.hid ⟨HO1.out, HF1.out⟩⟩
  case round =>
    obtain ⟨k, hk, rfl, ⟨vx, rfl⟩, hI⟩ := hrel
    clear HO1 HF1 n14'
    by_cases hlt : k < S.calls.length
    · rcases HR.out with h0 | ⟨g, rfl, hj⟩
      · rw [h0] at hlt; simp at hlt
      have hgz : g < w.heap.size := (HH.out.rest.own.lt g (by rw [HV.out]; rfl)).2
      have hkl : (k : Int) < (S.calls.length : Nat) := by omega
      have hcell : wr.cell? ⟨g, k, none⟩ = some (.pointer (some ⟨(S.calls[k]).k, 0, none⟩)) := (World.cell?_of_block (w := w) (hI.out.2.block _ hgz id)).trans (hj k hlt)
      have hx := (HH.out.rest.each _ (List.getElem_mem hlt)).box
      have hs : wr.cell? ⟨(S.calls[k]).k, 0, none⟩ = some (.int .i64 (S.calls[k]).seq) := cellOf ((hI.out.2.block _ (lt_of_block hx) id).trans hx) 0
      have HT : Hid (seqRow (S.calls.take (k + 1)) = seqRow (S.calls.take k) ++ [.int .i64 (S.calls[k]).seq]) := Lib.hid (by unfold seqRow; rw [List.take_succ_eq_append_getElem hlt, List.map_append]; rfl)
      generalize S.calls[k] = r at *
      obtain ⟨A3, c3, e3⟩ := owns_slice hI.out.1
      subst e3
      have HB := Lib.hid (show w.heap.size ≤ wr.heap.size from hI.out.2.size)
      go_wp2_with (at_builtin; refine wpList_append_own _ rfl _ _ 24 rfl w.heap.size 3 i0 (.int .i64 0) 1 8 Tryz.underlying24 hi hz0 hz1 hz2 rfl (by decide) (.slice A3 k c3) k (seqRow (S.calls.take k)) rfl (hI.out.1.alloc _) ⟨wr.heap.size, 0, none⟩ 1 1 [.int .i64 r.seq] rfl rfl (World.news_of_block (cs := #[.int .i64 r.seq]) (t := 3) (fr := (0, 0)) (heap_alloc_new wr _)) (by simp [Value.oneCell']) (by unfold maxLen; omega) (by omega) (by simp; have := HB.out; omega) ?_; intro v9 w9 hown9 hgrow9 _)
      exact ⟨⟨k + 1, by omega, by go_num, ⟨_, rfl⟩, Lib.hid ⟨by rw [HT.out]; exact hown9, (hI.out.2.alloc _).grown hgrow9 (fun k e => .inr (hI.out.1.lt k e).1)⟩⟩, by simp [intOf]; omega⟩
    · obtain rfl : k = S.calls.length := by omega
      have hT := hI.out.1
      rw [List.take_length] at hT
      have HT := Lib.hid hT
      clear hT
      go_wp2_with fail
      go_ret
      exact ⟨_, rfl, HT.out, hI.out.2⟩
end Go.Proofs.YtbegjpmifcnieaaGreatDoor

/- ClientOnce: what stands behind each step. -/
namespace Go.Proofs.YtbegjpmifcnieaaGreatDoor
open Go.RowKit
set_option linter.unusedVariables false
set_option linter.unusedSimpArgs false

theorem opens_water {p : PaceM} {room : Int} {k : Nat} {S : CliS} {bs : List BookM} {wt sd : Int} (h : Once p room k S bs wt sd) : waterM S = (match openQs 9 bs with | [] => 9 + (bs.length : Int) | q :: _ => q) := by
  rw [h.sync.water, leastM_opens]
  cases openQs 9 bs <;> rfl
/-- the loop's list. -/
structure StandI (w1 : World) (base : Nat) (bs : List BookM) (k : Nat) (v : Value) (w : World) : Prop where
  row : w.ownsRow base 3 1 v (openQs 9 (bs.take k)).length ((openQs 9 (bs.take k)).map (Value.int .i64))
  fr : Fr (fun _ => False) w1 w

set_option maxRecDepth 100000 in
set_option maxHeartbeats 4000000 in
theorem Life_stands {w0 w : World} {x b : Nat} {S : CliS} {bs : List BookM} {vl : Value} {wt sd : Int} {p : PaceM} {room : Int} {k : Nat} (h : LifeI w0 x b S bs vl wt sd w) (hh : Once p room k S bs wt sd) :
    Calls Tryz.prog 20 #[.pointer (some ⟨x, 0, none⟩), .agg #[.int .i64 p.base, .int .i64 p.cap, .int .i64 p.tries], .int .i64 room] w fun e w' => e = .returned (.bool true) ∧ LifeI w0 x b S bs vl (waterM S) sd w' := by
  have HH := Lib.hid hh
  have hf1 := (Fr.refl (fun _ => False) w).alloc (.cells #[.int .i64 p.base, .int .i64 p.cap, .int .i64 p.tries] 23)
  have hp1 := Lib.hid (heap_alloc_new w (.cells #[.int .i64 p.base, .int .i64 p.cap, .int .i64 p.tries] 23))
  have HX := Lib.hid (h.grown hf1)
  have HT := Lib.hid (fun w => Total_any p w)
  have ⟨t0, t1⟩ := totalM_bounds p
  have hbl : bs.length ≤ 33554432 := by have h1 := HH.out.len; have h2 := HH.out.k1; omega
  have hS1 : S.now ≤ 33554432 := by have h1 := HH.out.now1; have h2 := HH.out.k1; omega
  have hS0 := HH.out.now0
  have HZ := Lib.hid (show w.heap.size ≤ (w.alloc (.cells #[.int .i64 p.base, .int .i64 p.cap, .int .i64 p.tries] 23)).heap.size by simp)
  unfold paceV at HT
  clear h hh
  generalize htot : totalM p = tot at *
  have HTM := Lib.hid htot
  clear htot
  obtain ⟨i0, hi, hz0, hz1, hz2⟩ := info_parts Tryz.infoInt
  go_enter Tryz.func20, Tryz.ntmps20
  go_wp2_with fail
  generalize w.alloc (.cells #[.int .i64 p.base, .int .i64 p.cap, .int .i64 p.tries] 23) = w1 at *
  obtain ⟨A2, c2, e2, hL⟩ := HX.out.lines
  have HL := Lib.hid hL
  have X0 := Lib.hid (show w1.cell? ⟨x, 0, none⟩ = some (.pointer (some ⟨b, 0, none⟩)) from cellOf HX.out.box 0)
  have X1 := Lib.hid (show w1.cell? ⟨x, 1, none⟩ = some (.slice A2 bs.length c2) from e2 ▸ cellOf HX.out.box 1)
  have X2 := Lib.hid (show w1.cell? ⟨x, 2, none⟩ = some (.int .i64 wt) from cellOf HX.out.box 2)
  have P0 := Lib.hid (show w1.cell? ⟨w.heap.size, 0, none⟩ = some (.int .i64 p.base) from cellOf hp1.out 0)
  have P1 := Lib.hid (show w1.cell? ⟨w.heap.size, 1, none⟩ = some (.int .i64 p.cap) from cellOf hp1.out 1)
  have P2 := Lib.hid (show w1.cell? ⟨w.heap.size, 2, none⟩ = some (.int .i64 p.tries) from cellOf hp1.out 2)
  have T : Hid (∀ wr : World, Fr (fun _ => False) w1 wr → ∀ (a : Addr) v, w1.cell? a = some v → wr.cell? a = some v) := Lib.hid (fun wr hf a v hc => (World.cell?_of_block (w := w1) (hf.block _ (World.block_lt_of_cell? _ _ hc) id)).trans hc)
  have FX := Lib.hid (show w1.frozen? ⟨x, 2, none⟩ = false from freeOf HX.out.box 2)
  clear hL e2
  go_loopw [7, 8] (fun o i wr => ∃ j : Nat, j ≤ bs.length ∧ i = .int .i64 j ∧ Hid (StandI w1 w1.heap.size bs j o wr)) (fun _ i _ => bs.length - (intOf i).toNat)
  case atStart => exact ⟨0, Nat.zero_le _, rfl, Lib.hid ⟨⟨by simp [openQs], .inl ⟨rfl, by simp [openQs]⟩⟩, Fr.refl _ _⟩⟩
  case round =>
    obtain ⟨j, hj, rfl, HI⟩ := hrel
    obtain ⟨A3, c3, e3⟩ := owns_slice HI.out.row
    subst e3
    have t := T.out wr HI.out.fr
    have x1 := t _ _ X1.out
    by_cases hlt : j < bs.length
    · obtain ⟨g, rfl, l0, l1, _, l3⟩ := HL.out j hlt
      have L1 := Lib.hid l1
      replace l0 := t _ _ l0
      replace l3 := t _ _ l3
      clear l1
      have hj0 : (j : Int) < (bs.length : Nat) := by omega
      have HO := Lib.hid (openQs_take bs j hlt)
      by_cases ho : bs[j].over = true
      · have HO2 := Lib.hid (HO.out.trans (by rw [if_pos ho, List.append_nil]))
        rw [ho] at l3
        have HN : Hid (StandI w1 w1.heap.size bs (j + 1) (.slice A3 (openQs 9 (bs.take j)).length c3) wr) := Lib.hid ⟨by rw [HO2.out]; exact HI.out.row, HI.out.fr⟩
        clear HO HO2 ho l0 t
        go_wp2_with fail
        exact ⟨⟨j + 1, by omega, by go_num, HN.out⟩, by simp [intOf]; omega⟩
      · have HO2 := Lib.hid (HO.out.trans (by rw [if_neg ho]))
        rw [Bool.not_eq_true] at ho
        have ⟨q1, q2, q3⟩ := HH.out.live j hlt ho
        rw [HTM.out] at q1
        rw [ho] at l3
        generalize bs[j].iat = ia at *
        have hwt : IntKind.i64.wrap (ia + tot) = ia + tot := IntWalk.i64_in _ (by omega)
        have hd1 : decide (ia + tot ≤ S.now) = false := decide_eq_false (by omega)
        have hql := openQs_le (bs.take j) 9
        rw [List.length_take] at hql
        have HB := Lib.hid HI.out.fr.size
        generalize hqs : openQs 9 (bs.take j) = qs at *
        have HRow : Hid (wr.ownsRow w1.heap.size 3 1 (.slice A3 qs.length c3) qs.length (qs.map (Value.int .i64))) := Lib.hid (by have := HI.out.row; rw [hqs] at this; exact this)
        clear HO ho hqs t
        go_wp2_with (at_builtin; refine wpList_append_own _ rfl _ _ 24 rfl w1.heap.size 3 i0 (.int .i64 0) 1 8 Tryz.underlying24 hi hz0 hz1 hz2 rfl (by decide) (.slice A3 qs.length c3) qs.length (qs.map (Value.int .i64)) rfl (HRow.out.alloc _) ⟨wr.heap.size, 0, none⟩ 1 1 [.int .i64 (9 + (j : Int))] rfl rfl (World.news_of_block (cs := #[.int .i64 (9 + (j : Int))]) (t := 3) (fr := (0, 0)) (heap_alloc_new wr _)) (by simp [Value.oneCell']) (by unfold maxLen; omega) (by omega) (by simp; have := HB.out; omega) ?_; intro v9 w9 hown9 hgrow9 _)
        have hf9 : Fr (fun _ => False) w1 w9 := (HI.out.fr.alloc _).grown hgrow9 (fun k e => .inr (HRow.out.lt k e).1)
        have HN : Hid (StandI w1 w1.heap.size bs (j + 1) v9 w9) := Lib.hid ⟨by rw [HO2.out]; simpa using hown9, hf9⟩
        have t := T.out w9 hf9
        have x0 := t _ _ X0.out
        have x1 := t _ _ X1.out
        have l1 := t _ _ L1.out
        have p0 := t _ _ P0.out
        have p1 := t _ _ P1.out
        have p2 := t _ _ P2.out
        have HC9 := Lib.hid (HX.out.grown hf9)
        have HF9 := Lib.hid hf9
        have HNow : Hid (∀ w', Fr (fun _ => False) w9 w' → Calls Tryz.prog 54 #[.pointer (some ⟨b, 0, none⟩)] w' fun r w2 => r = .returned (.int .i64 S.now) ∧ w2 = w') := Lib.hid (fun w' hf => Now_any (HC9.out.grown hf).cli)
        clear hown9 hgrow9 hf9 t HRow HI l0 l3
        go_region_held3 (fun w' => w'.cell? ⟨x, 0, none⟩ = some (.pointer (some ⟨b, 0, none⟩)) ∧ w'.cell? ⟨x, 1, none⟩ = some (.slice (some ⟨g, 0, none⟩) bs.length c2) ∧ w'.cell? ⟨g, j * 4 + 1, none⟩ = some (.int .i64 ia) ∧ w'.cell? ⟨w.heap.size, 0, none⟩ = some (.int .i64 p.base) ∧ w'.cell? ⟨w.heap.size, 1, none⟩ = some (.int .i64 p.cap) ∧ w'.cell? ⟨w.heap.size, 2, none⟩ = some (.int .i64 p.tries))
          (first
            | go_keep
            | exact ⟨k0, k1, k3, k5, k6, k7⟩)
          (first
            | (go_at_call 84; refine (HT.out _).mono ?_; rintro e w3 ⟨rfl, hf3⟩; have hF3 : Fr (fun _ => False) w9 w3 := ((Fr.refl (fun _ => False) w9).drew).trans hf3; have kk := T.out w3 (HF9.out.trans hF3); have k0 := kk _ _ X0.out; have k1 := kk _ _ X1.out; have k3 := kk _ _ L1.out; have k5 := kk _ _ P0.out; have k6 := kk _ _ P1.out; have k7 := kk _ _ P2.out; clear kk hf3)
            | (go_at_call 54; refine (HNow.out _ hF3).mono ?_; rintro e w' ⟨rfl, hw⟩; obtain rfl : w3 = w' := hw.symm))
        have HN3 : Hid (StandI w1 w1.heap.size bs (j + 1) v9 w3) := Lib.hid ⟨ownsRow_keep HN.out.row (fun g e => hF3.block g (HN.out.row.lt g e).2 id), HF9.out.trans hF3⟩
        clear hF3 k0 k1 k3 k5 k6 k7 x0 x1 l1 p0 p1 p2
        go_wp2_with fail
        exact ⟨⟨j + 1, by omega, by go_num, HN3.out⟩, by simp [intOf]; omega⟩
    · obtain rfl : j = bs.length := by omega
      have HQ : Hid (wr.ownsRow w1.heap.size 3 1 (.slice A3 (openQs 9 bs).length c3) (openQs 9 bs).length ((openQs 9 bs).map (Value.int .i64))) := Lib.hid (by have := HI.out.row; rw [List.take_length] at this; exact this)
      rw [List.take_length] at *
      have x0 := t _ _ X0.out
      have HWa := Lib.hid (Water_any (HX.out.grown HI.out.fr).cli)
      have HCa := Lib.hid ((HX.out.grown HI.out.fr).cli)
      have hcl : S.calls.length ≤ 33554432 := by have := HH.out.sync.length; omega
      have HWt := Lib.hid (Waiting_any HCa.out (by omega))
      have hw0 : decide (waterM S < wt) = false := decide_eq_false (by have := HH.out.wt; omega)
      have hwn := HH.out.sync.next
      have hwr := HH.out.sync.water_range
      have hwin : decide (room < 9 + (bs.length : Int) - waterM S) = false := decide_eq_false (by have := HH.out.win; omega)
      have hwrp : IntKind.i64.wrap (9 + (bs.length : Int) - waterM S) = 9 + (bs.length : Int) - waterM S := IntWalk.i64_in _ (by omega)
      have HOW := Lib.hid (opens_water HH.out)
      clear t
      cases hqs : openQs 9 bs with
      | nil =>
        have hw1 : (waterM S != 9 + (bs.length : Int)) = false := by have := HOW.out; rw [hqs] at this; simpa using this
        have HQS := Lib.hid hqs
        go_wp2_with (go_at_call 53; refine HWa.out.mono ?_; rintro e w' ⟨rfl, hw⟩; obtain rfl : wr = w' := hw.symm)
        refine HWt.out.mono ?_
        rintro e w5 ⟨v5, rfl, h5, hf5⟩
        obtain ⟨A5, c5, e5⟩ := owns_slice h5
        subst e5
        have HF5 := Lib.hid (HI.out.fr.trans hf5)
        have HC5 := Lib.hid (HX.out.grown HF5.out)
        have HJ := Lib.hid (ints_any (openQs 9 bs) (S.calls.map (·.seq)) A3 A5 c3 c5 w5 (IntsAt.ofRow (ownsRow_keep HQ.out (fun g e => hf5.block g (HQ.out.lt g e).2 id))) (IntsAt.ofRow (n := S.calls.length) (c := c5) (base := wr.heap.size) (by have := h5; unfold seqRow at this; rw [List.map_map]; exact this)) (by have := openQs_le bs 9; omega))
        rw [decide_eq_true HH.out.sync.opens, List.length_map] at HJ
        have t5 := T.out w5 HF5.out
        have x1 := t5 _ _ X1.out
        have x2 := t5 _ _ X2.out
        have fx : w5.frozen? ⟨x, 2, none⟩ = false := freeOf HC5.out.box 2
        clear hf5 h5 t5
        rw [HQS.out, List.length_nil] at HJ
        go_wp2_with fail
        refine HJ.out.mono ?_
        rintro e w6 ⟨rfl, hf6⟩
        have HF6 := Lib.hid (HF5.out.trans hf6)
        have t6 := T.out w6 HF6.out
        have y1 := t6 _ _ X1.out
        have y2 := t6 _ _ X2.out
        have HC6 := Lib.hid (HX.out.grown HF6.out)
        have fy : w6.frozen? ⟨x, 2, none⟩ = false := freeOf HC6.out.box 2
        have HE := Lib.hid (HC6.out.setWater (waterM S))
        clear hf6 t6 x1 x2 fx HJ
        go_wp2_with fail
        go_ret
        exact ⟨rfl, HE.out⟩
      | cons q0 ql =>
        have hw1 : (waterM S != q0) = false := by have := HOW.out; rw [hqs] at this; simpa using this
        have HQS := Lib.hid hqs
        have hq0 : ∃ g3, A3 = some ⟨g3, 0, none⟩ ∧ wr.cell? ⟨g3, 0, none⟩ = some (.int .i64 q0) := by
          have hrow := HQ.out
          rcases hrow.2 with ⟨_, h0⟩ | ⟨g3, cap, cur, h0, _⟩
          · rw [hqs] at h0; simp at h0
          · injection h0 with h0
            exact ⟨g3, h0, row_cell hrow (by rw [h0]; rfl) 0 _ (by rw [hqs]; rfl)⟩
        obtain ⟨g3, rfl, c30⟩ := hq0
        have hqpos : (0 : Int) < ((ql.length + 1 : Nat) : Int) := by omega
        go_wp2_with (go_at_call 53; refine HWa.out.mono ?_; rintro e w' ⟨rfl, hw⟩; obtain rfl : wr = w' := hw.symm)
        refine HWt.out.mono ?_
        rintro e w5 ⟨v5, rfl, h5, hf5⟩
        obtain ⟨A5, c5, e5⟩ := owns_slice h5
        subst e5
        have HF5 := Lib.hid (HI.out.fr.trans hf5)
        have HC5 := Lib.hid (HX.out.grown HF5.out)
        have HJ := Lib.hid (ints_any (openQs 9 bs) (S.calls.map (·.seq)) (some ⟨g3, 0, none⟩) A5 c3 c5 w5 (IntsAt.ofRow (ownsRow_keep HQ.out (fun g e => hf5.block g (HQ.out.lt g e).2 id))) (IntsAt.ofRow (n := S.calls.length) (c := c5) (base := wr.heap.size) (by have := h5; unfold seqRow at this; rw [List.map_map]; exact this)) (by have := openQs_le bs 9; omega))
        rw [decide_eq_true HH.out.sync.opens, List.length_map] at HJ
        have t5 := T.out w5 HF5.out
        have x1 := t5 _ _ X1.out
        have x2 := t5 _ _ X2.out
        have fx : w5.frozen? ⟨x, 2, none⟩ = false := freeOf HC5.out.box 2
        clear hf5 h5 t5
        rw [HQS.out, List.length_cons] at HJ
        go_wp2_with fail
        refine HJ.out.mono ?_
        rintro e w6 ⟨rfl, hf6⟩
        have HF6 := Lib.hid (HF5.out.trans hf6)
        have t6 := T.out w6 HF6.out
        have y1 := t6 _ _ X1.out
        have y2 := t6 _ _ X2.out
        have HC6 := Lib.hid (HX.out.grown HF6.out)
        have fy : w6.frozen? ⟨x, 2, none⟩ = false := freeOf HC6.out.box 2
        have HE := Lib.hid (HC6.out.setWater (waterM S))
        clear hf6 t6 x1 x2 fx HJ
        go_wp2_with fail
        go_ret
        exact ⟨rfl, HE.out⟩
end Go.Proofs.YtbegjpmifcnieaaGreatDoor
