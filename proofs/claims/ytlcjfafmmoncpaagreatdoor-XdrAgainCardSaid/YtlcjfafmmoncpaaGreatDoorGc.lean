/- callboxlaw02.XdrAgain, walked. -/
import Derived.Test.YtlcjfafmmoncpaaGreatDoorGb
namespace Go.Proofs.YtlcjfafmmoncpaaGreatDoor
open Go.RowKit
set_option linter.unusedVariables false
set_option linter.unusedSimpArgs false

theorem WNew_s (s : ByteArray) (w : World) (hs : s.size ≤ 2147483647) : Calls Tryz.prog 13 #[.int .i64 (s.size : Nat)] w fun r w' => r = .returned (.pointer (some ⟨w.heap.size, 0, none⟩)) ∧ Fr (fun _ => False) w w' ∧ Wr w' (fun k => k = w.heap.size) w.heap.size ⟨ByteArray.empty, (s.size : Nat), 0⟩ := by
  have h := WNew_any (s.size : Nat) w (by omega)
  have e : max ((s.size : Nat) : Int) 0 = (s.size : Nat) := by omega
  rwa [e] at h
/-- where a Reader is wrong. -/
theorem wrong_int {b : Nat} {st : RSt} (w : World) (h : Rd w b st) (he : st.e ≠ 0) :
    Calls Tryz.prog 32 #[.pointer (some ⟨b, 0, none⟩)] w fun r w' => r = .returned (.int .i64 0) ∧ Fr (fun k => k = b) w w' ∧ Rd w' b st := by
  have hc := RInt_any w h
  rw [(bad_int he).1, (bad_int he).2] at hc
  exact hc.mono fun _ _ h => ⟨h.1, h.2.1, h.2.2.2⟩
theorem wrong_rest {b : Nat} {st : RSt} (w : World) (h : Rd w b st) (he : st.e ≠ 0) :
    Calls Tryz.prog 33 #[.pointer (some ⟨b, 0, none⟩)] w fun r w' => r = .returned (.string ⟨#[]⟩) ∧ Fr (fun k => k = b) w w' ∧ Rd w' b st := by
  have hc := RRest_any w h
  rw [(bad_rest he).1, (bad_rest he).2.1] at hc
  exact hc.mono fun _ _ h => ⟨h.1, h.2.1, h.2.2.2⟩
theorem wrong_done {b : Nat} {st : RSt} (w : World) (h : Rd w b st) (hg : ErrT w) (he : st.e ≠ 0) :
    Calls Tryz.prog 25 #[.pointer (some ⟨b, 0, none⟩)] w fun r w' => r = .returned (.int .i64 st.e) ∧ Fr (fun _ => False) w w' := by
  have hc := RDone_any w h hg
  rw [(bad_rest he).2.2] at hc
  exact hc

set_option maxRecDepth 100000 in
set_option maxHeartbeats 4000000 in
theorem XdrAgain_in (s : ByteArray) (l : List OpM) (A : Option Addr) (c : Nat) (w : World) (hg : ErrT w) (h : OpsAt w A l) (hA : ∀ a, A = some a → a.block < w.heap.size) (ho : ∀ o ∈ l, o.Is) (hl : l.length ≤ 140737488355328)
    (hle : addsM s.size (weighsM l (addsM 0 l.length)) ≤ 2147483647) :
    Calls Tryz.prog 7 #[.string s, .slice A l.length c] w fun r w' => r = .returned (.bool true) ∧ Fr (fun _ => False) w w' := by
  have h00 : (0 : Int) ≤ addsM 0 l.length := addsM_nonneg (by omega) (by omega)
  have hw0 := weighsM_big l _ h00
  have hsum := addsM_le hle
  have hls : s.size ≤ 2147483647 := by omega
  have hll : l.length ≤ 2147483647 := by
    have h2 : addsM 0 l.length ≤ 2147483647 := by omega
    have := addsM_le h2
    omega
  have HG := Lib.hid hg
  have HO := Lib.hid h
  have HAd := Lib.hid (fun w' => addsUp_same (s.size : Int) (weighsM l (addsM 0 l.length)) w' (by omega) (by omega))
  have HWe := Lib.hid (weighs_any l A c w h hl ho)
  have HAw := Lib.hid (awake02_any w hg)
  have HRn := Lib.hid (fun w' => RNew_any s w' (by omega))
  have HWn := Lib.hid (fun w' => WNew_s s w' hls)
  have HP := Lib.hid (fun l => pair_whole s l)
  have HSz := Lib.hid (And.intro hls hll)
  have HA := Lib.hid hA
  clear hg h ho h00 hA hl
  generalize addsM 0 l.length = n0 at *
  generalize weighsM l n0 = wl at *
  have HN := Lib.hid hle
  generalize addsM s.size wl = z at *
  clear hsum hw0
  obtain ⟨i0, hi0, hz0, hz1, hz2⟩ := info_parts Tryz.infoOp
  go_enter Tryz.func7, Tryz.ntmps7
  go_wp2_with fail
  refine HWe.out.mono ?_
  rintro e w' ⟨rfl, hw⟩
  obtain rfl : w = w' := hw
  go_wp2_with fail
  refine (HAd.out w).mono ?_
  rintro e w' ⟨rfl, hw⟩
  obtain rfl : w = w' := hw.symm
  go_wp2_with fail
  refine HAw.out.mono ?_
  rintro e w1 ⟨rfl, hf1⟩
  have HF1 := Lib.hid hf1
  clear hf1
  go_wp2_with fail
  refine (HRn.out w1).mono ?_
  rintro e w2 ⟨rfl, hf2, -⟩
  have HF2 := Lib.hid (HF1.out.trans hf2)
  have HO2 := Lib.hid (HO.out.fr HF2.out (fun a ha => ⟨HA.out a ha, id⟩))
  clear hf2 HF1 HO HAd HWe HAw
  go_wp2_with fail
  go_loopw [7, 8, 9, 10, 11, 12, 13, 14, 15] (fun d i u9 u10 u11 u12 u13 u14 u15 wr => ∃ j : Nat, j ≤ l.length ∧ i = .int .i64 j ∧ (∃ v : Value, u9 = v) ∧ (∃ v : Value, u10 = v) ∧ (∃ v : Value, u11 = v) ∧ (∃ v : Value, u12 = v) ∧ (∃ v : Value, u13 = v) ∧ (∃ v : Value, u14 = v) ∧ (∃ v : Value, u15 = v) ∧ (∃ A c, d = .slice A j c) ∧ Hid (wr.ownsRow w2.heap.size 44 7 d j (opsRow (l.take j))) ∧ Hid (Fr (fun _ => False) w2 wr)) (fun _ i _ _ _ _ _ _ _ _ => l.length - (intOf i).toNat)
  case atStart => exact ⟨0, Nat.zero_le _, rfl, ⟨_, rfl⟩, ⟨_, rfl⟩, ⟨_, rfl⟩, ⟨_, rfl⟩, ⟨_, rfl⟩, ⟨_, rfl⟩, ⟨_, rfl⟩, ⟨_, _, rfl⟩, Lib.hid (World.ownsRow_nil _ _ _ _), Lib.hid (Fr.refl _ _)⟩
  case round =>
    obtain ⟨j, hj, rfl, ⟨v9, rfl⟩, ⟨v10, rfl⟩, ⟨v11, rfl⟩, ⟨v12, rfl⟩, ⟨v13, rfl⟩, ⟨v14, rfl⟩, ⟨v15, rfl⟩, ⟨DA, dc, rfl⟩, HOw, HR⟩ := hrel
    by_cases hlt : j < l.length
    · go_wp2_with fail
      refine (HWn.out wr).mono ?_
      rintro e w3 ⟨rfl, hf3, hw3⟩
      have HW3 := Lib.hid hw3
      have HF3 := Lib.hid (HR.out.trans hf3)
      have L3 := Lib.hid (And.intro HR.out.size (hw3.low _ rfl))
      have HOw3 := Lib.hid (ownsRow_keep HOw.out (fun g hg => hf3.block _ (HOw.out.lt g hg).2 id))
      have HDb := Lib.hid (fun g hg => HOw.out.lt g hg)
      clear hf3 hw3 HOw HR
      go_wp2_with fail
      refine (HRn.out w3).mono ?_
      rintro e w4 ⟨rfl, hf4, hr4⟩
      have HW4 := Lib.hid (HW3.out.fr hf4 (fun _ _ => id))
      have HR4 := Lib.hid hr4
      have HF4 := Lib.hid (HF3.out.trans hf4)
      have L4 := Lib.hid (And.intro hf4.size hr4.lt)
      have HOw4 := Lib.hid (ownsRow_keep HOw3.out (fun g hg => hf4.block _ (HOw3.out.lt g hg).2 id))
      clear hf4 hr4 HW3 HF3 HOw3
      obtain ⟨wo, rfl⟩ : ∃ wo : World, wo = wr := ⟨_, rfl⟩
      have hoW := HO2.out.fr HF4.out (fun a ha => ⟨Nat.lt_of_lt_of_le (HA.out a ha) HF2.out.size, id⟩)
      obtain ⟨g, off, e, hc⟩ := hoW.cell j hlt
      have HOA := Lib.hid (And.intro HO2.out HA.out)
      clear HO2 HA
      subst e
      rw [getD_lt l _ hlt] at hc
      have Ht := Lib.hid (show opsRow (l.take (j + 1)) = opsRow (l.take j) ++ (opCells l[j]).toList by rw [take_succ_get l j hlt, opsRow_append])
      generalize l[j] = o at *
      have c0 : w4.cell? ⟨g, off + j * 7, none⟩ = some (.int .i64 o.kind) := hc 0 (by decide)
      have c1 : w4.cell? ⟨g, off + j * 7 + 1, none⟩ = some (.int .i64 o.n) := hc 1 (by decide)
      have c2 : w4.cell? ⟨g, off + j * 7 + 2, none⟩ = some (.int .i64 o.m) := hc 2 (by decide)
      have c3 : w4.cell? ⟨g, off + j * 7 + 3, none⟩ = some (.bool o.other) := hc 3 (by decide)
      have c4 : w4.cell? ⟨g, off + j * 7 + 4, none⟩ = some (.string o.s) := hc 4 (by decide)
      have c5 : w4.cell? ⟨g, off + j * 7 + 5, none⟩ = some (.int .u32 o.single) := hc 5 (by decide)
      have c6 : w4.cell? ⟨g, off + j * 7 + 6, none⟩ = some (.int .u64 o.double) := hc 6 (by decide)
      clear hc hoW
      have HOw5 := Lib.hid (HOw4.out.alloc (.cells #[.int .i64 o.kind, .int .i64 o.n, .int .i64 o.m, .bool o.other, .string o.s, .int .u32 o.single, .int .u64 o.double] 44))
      have HNews := Lib.hid (news_op (heap_alloc_new w4 (.cells #[.int .i64 o.kind, .int .i64 o.n, .int .i64 o.m, .bool o.other, .string o.s, .int .u32 o.single, .int .u64 o.double] 44)))
      have HOne := Lib.hid (show ∀ u ∈ (opCells o).toList, u.oneCell' = true by simp [opCells, Value.oneCell'])
      have HLn := Lib.hid (show j + 1 ≤ maxLen ∧ (j + 1) * 64 ≤ 140737488355328 by have := HSz.out.2; unfold maxLen; omega)
      have HLs := Lib.hid (show w2.heap.size ≤ (w4.alloc (.cells #[.int .i64 o.kind, .int .i64 o.n, .int .i64 o.m, .bool o.other, .string o.s, .int .u32 o.single, .int .u64 o.double] 44)).heap.size by have := HF4.out.size; simp; omega)
      go_wp2_with (at_builtin; refine wpList_append_own _ rfl (.tmp 48) (.tmp 53) 35 rfl w2.heap.size 44 i0 (.agg #[.int .i64 0, .int .i64 0, .int .i64 0, .bool false, .string ByteArray.empty, .int .u32 0, .int .u64 0]) 7 64 Tryz.underlying35 hi0 hz0 hz1 hz2 rfl (by decide) (.slice DA j dc) j (opsRow (l.take j)) rfl HOw5.out ⟨w4.heap.size, 0, none⟩ 1 1 (opCells o).toList rfl rfl HNews.out HOne.out HLn.out.1 HLn.out.2 HLs.out ?_; intro v5 w5 hown5 hgrow5 hnil; clear hnil)
      rw [← Ht.out] at hown5
      obtain ⟨gd, dc5, rfl, hgb, hgl⟩ := owns_one hown5 (Nat.succ_pos j)
      have hf45 : Fr (fun k => (Value.slice DA j dc).ownBlock = some k) w4 w5 := ((Fr.refl _ w4).alloc _).grown hgrow5 (fun k e => .inl e)
      have HR5 := HR4.out.fr hf45 (fun e => by have := (HDb.out _ e).2; have := L3.out.2; omega)
      have HW5 := HW4.out.fr hf45 (fun g hg e => by subst hg; exact absurd (HDb.out _ e).2 (Nat.lt_irrefl _))
      have hgn : gd ≠ w3.heap.size ∧ gd ≠ wo.heap.size := by
        obtain ⟨cur, hcur⟩ := owns_block hown5
        obtain ⟨cs, hcs⟩ := HW5.blk
        exact ⟨far_of hcur HR5.blk (by decide), far_of hcur hcs (by decide)⟩
      have HJ := Lib.hid (Wj.begin (p := (⟨s, 0⟩, ⟨ByteArray.empty, (s.size : Nat), 0⟩)) HR5 HW5 (by have := L3.out.2; omega) (by have := HSz.out.1; unfold WOk; show ((0 : Nat) : Int) ≤ (s.size : Nat) ∧ ((s.size : Nat) : Int) ≤ _; omega) (by have := HSz.out.1; show s.size ≤ _; omega))
      have HF5 := Lib.hid ((HF4.out.alloc (.cells #[.int .i64 o.kind, .int .i64 o.n, .int .i64 o.m, .bool o.other, .string o.s, .int .u32 o.single, .int .u64 o.double] 44)).grown hgrow5 (fun k e => .inr (HDb.out k e).1))
      have HGn := Lib.hid (And.intro hgn hgl)
      have HD := Lib.hid hown5
      have HB := Lib.hid (show w2.heap.size ≤ w3.heap.size ∧ w2.heap.size ≤ wo.heap.size by have := L3.out; omega)
      have Hp0 := Lib.hid (fun l => HP.out l)
      clear hown5 hgrow5 hf45 HR5 HW5 hgn hgb hgl HOw5 HNews HOne HLn HLs HOw4 HW4 HR4 HF4 HDb c0 c1 c2 c3 c4 c5 c6 Ht HP
      generalize hp0 : ((⟨s, 0⟩, ⟨ByteArray.empty, (s.size : Nat), 0⟩) : RSt × WSt) = p0 at *
      clear hp0
      go_wp2_with fail
      go_loopw [11] (fun u wi => ∃ m : Nat, m ≤ j + 1 ∧ u = .int .i64 m ∧ Hid (Wj w5 w3.heap.size wo.heap.size wi ((l.take m).foldl pairS p0))) (fun u _ => j + 1 - (intOf u).toNat)
      case atStart => exact ⟨0, Nat.zero_le _, rfl, Lib.hid (by simpa using HJ.out)⟩
      case round =>
        obtain ⟨m, hm, rfl, HJ2⟩ := hrel
        by_cases hml : m < j + 1
        · have hmlt : m < l.length := by omega
          have hblk := HJ2.out.fr.block gd HGn.out.2 (fun e => e.elim HGn.out.1.1 HGn.out.1.2)
          have hc : ∀ i, i < 7 → wr.cell? ⟨gd, m * 7 + i, none⟩ = (opCells l[m])[i]? := fun i hi => by
            rw [World.cell?_of_block (a := ⟨gd, m * 7 + i, none⟩) hblk, ops_own HD.out (by rw [List.length_take]; omega) m hml i hi]
            congr 2
            rw [getD_lt _ _ (by rw [List.length_take]; omega), List.getElem_take]
          have Ht := Lib.hid (show (l.take (m + 1)).foldl pairS p0 = pairS ((l.take m).foldl pairS p0) l[m] by rw [take_succ_get l m hmlt, List.foldl_append]; rfl)
          generalize l[m] = o2 at *
          have c0 : wr.cell? ⟨gd, m * 7, none⟩ = some (.int .i64 o2.kind) := hc 0 (by decide)
          have c1 : wr.cell? ⟨gd, m * 7 + 1, none⟩ = some (.int .i64 o2.n) := hc 1 (by decide)
          have c2 : wr.cell? ⟨gd, m * 7 + 2, none⟩ = some (.int .i64 o2.m) := hc 2 (by decide)
          have c3 : wr.cell? ⟨gd, m * 7 + 3, none⟩ = some (.bool o2.other) := hc 3 (by decide)
          have c4 : wr.cell? ⟨gd, m * 7 + 4, none⟩ = some (.string o2.s) := hc 4 (by decide)
          have c5 : wr.cell? ⟨gd, m * 7 + 5, none⟩ = some (.int .u32 o2.single) := hc 5 (by decide)
          have c6 : wr.cell? ⟨gd, m * 7 + 6, none⟩ = some (.int .u64 o2.double) := hc 6 (by decide)
          clear hc hblk
          go_wp2_with fail
          refine (HJ2.out.again o2).mono ?_
          rintro e w6 ⟨rfl, hj6⟩
          have HJ6 := Lib.hid hj6
          clear hj6 c0 c1 c2 c3 c4 c5 c6
          go_wp2_with fail
          go_roundw
          case rel => exact ⟨m + 1, by omega, by go_num, Lib.hid (by rw [Ht.out]; exact HJ6.out)⟩
          case measure => simp [intOf]; omega
        · obtain rfl : m = j + 1 := by omega
          have Hq := Lib.hid (Hp0.out (l.take (j + 1)))
          generalize (l.take (j + 1)).foldl pairS p0 = q at *
          have HFi := Lib.hid (HF5.out.then HJ2.out.fr (fun i hi e => by have := HB.out; omega))
          have HE := Lib.hid (HG.out.fr (HF2.out.trans HFi.out) id)
          have HWr := Lib.hid (RWrong_any wr HJ2.out.rd HE.out)
          clear HJ hm hml
          by_cases he : q.1.e = 0
          · have hwr := HWr.out
            rw [he] at hwr
            obtain ⟨hq1, hq2⟩ := Hq.out he
            have HRd := Lib.hid HJ2.out.rd
            obtain ⟨F, hF, _⟩ := HJ2.out.wr
            rw [hq2] at hF
            have HWF := Lib.hid hF
            have HJf := Lib.hid HJ2.out.fr
            have hsl : s.size - q.1.rest.size ≤ s.size := Nat.sub_le _ _
            clear HJ2 hF hq2 Hq HWr he
            generalize hleft : q.1.rest.size = left at *
            have HLeft := Lib.hid hleft
            clear hleft
            go_wp2_with fail
            refine hwr.mono ?_
            rintro e w7 ⟨rfl, hf7⟩
            have HF7 := Lib.hid hf7
            have HRd7 := Lib.hid (HRd.out.fr hf7 id)
            clear hf7 hwr
            go_wp2_with fail
            refine (show Calls Tryz.prog 28 #[.pointer (some ⟨wo.heap.size, 0, none⟩)] w7 fun r w' => r = .returned (.tuple #[.string (s.extract 0 (s.size - left)), .int .i64 0]) ∧ Fr (fun _ => False) w7 w' from WDone_any w7 (HWF.out.fr HF7.out (fun _ _ => id)) (HE.out.fr HF7.out id)).mono ?_
            rintro e w8 ⟨rfl, hf8⟩
            have HF8 := Lib.hid hf8
            have HRd8 := Lib.hid (HRd7.out.fr hf8 id)
            clear hf8 HRd7
            go_wp2_with fail
            refine (show Calls Tryz.prog 21 #[.pointer (some ⟨w3.heap.size, 0, none⟩)] w8 fun r w' => r = .returned (.int .i64 (left : Nat)) ∧ w8 = w' by have hc := RLeft_any w8 HRd8.out; rw [HLeft.out] at hc; exact hc).mono ?_
            rintro e w9 ⟨rfl, hw9⟩
            obtain rfl : w8 = w9 := hw9
            go_wp2_with fail
            go_roundw
            case rel =>
              have hk : ∀ b, b < w5.heap.size → b ≠ w3.heap.size → b ≠ wo.heap.size → w8.heap[b]? = w5.heap[b]? := fun b h1 h2 h3 => (HF8.out.block b (Nat.lt_of_lt_of_le h1 (Nat.le_trans HJf.out.size HF7.out.size)) id).trans ((HF7.out.block b (Nat.lt_of_lt_of_le h1 HJf.out.size) id).trans (HJf.out.block b h1 (fun e => e.elim h2 h3)))
              exact ⟨j + 1, by omega, by go_num, ⟨_, rfl⟩, ⟨_, rfl⟩, ⟨_, rfl⟩, ⟨_, rfl⟩, ⟨_, rfl⟩, ⟨_, rfl⟩, ⟨_, rfl⟩, ⟨_, _, rfl⟩, Lib.hid (ownsRow_keep HD.out (fun g hg => by cases hg; exact hk gd HGn.out.2 HGn.out.1.1 HGn.out.1.2)), Lib.hid (HFi.out.trans (HF7.out.trans HF8.out))⟩
            case measure => simp [intOf]; omega
          · have HRd := Lib.hid HJ2.out.rd
            clear HJ2 Hq
            have hwr := HWr.out
            generalize hee : q.1.e = ee at *
            have hne : ee ≠ 0 := he
            have Hne : Hid (q.1.e ≠ 0) := Lib.hid (by rw [hee]; exact hne)
            clear HWr
            go_wp2_with fail
            refine hwr.mono ?_
            rintro e w7 ⟨rfl, hf7⟩
            have HF7 := Lib.hid (HFi.out.trans hf7)
            have HRd7 := Lib.hid (HRd.out.fr hf7 id)
            clear hf7 hwr HRd
            go_wp2_with fail
            refine (RLeft_any w7 HRd7.out).mono ?_
            rintro e w' ⟨rfl, hw'⟩
            obtain rfl : w7 = w' := hw'
            go_wp2_with fail
            refine (wrong_int w7 HRd7.out Hne.out).mono ?_
            rintro e w8 ⟨rfl, hf8, hr8⟩
            have HRd8 := Lib.hid hr8
            have HF8 := Lib.hid (HF7.out.then hf8 (fun i hi e => by have := HB.out; omega))
            clear hf8 hr8 HRd7
            go_wp2_with fail
            refine (RLeft_any w8 HRd8.out).mono ?_
            rintro e w' ⟨rfl, hw'⟩
            obtain rfl : w8 = w' := hw'
            go_wp2_with fail
            refine (wrong_rest w8 HRd8.out Hne.out).mono ?_
            rintro e w9 ⟨rfl, hf9, hr9⟩
            have HRd9 := Lib.hid hr9
            have HF9 := Lib.hid (HF8.out.then hf9 (fun i hi e => by have := HB.out; omega))
            clear hf9 hr9 HRd8
            go_wp2_with fail
            refine (show Calls Tryz.prog 25 #[.pointer (some ⟨w3.heap.size, 0, none⟩)] w9 fun r w' => r = .returned (.int .i64 ee) ∧ Fr (fun _ => False) w9 w' by have hc := wrong_done w9 HRd9.out (HG.out.fr (HF2.out.trans HF9.out) id) Hne.out; rw [hee] at hc; exact hc).mono ?_
            rintro e w10 ⟨rfl, hf10⟩
            have HRd10 := Lib.hid (HRd9.out.fr hf10 id)
            have HF10 := Lib.hid (HF9.out.trans hf10)
            clear hf10 HRd9
            go_wp2_with fail
            refine (show Calls Tryz.prog 23 #[.pointer (some ⟨w3.heap.size, 0, none⟩)] w10 fun r w' => r = .returned (.int .i64 ee) ∧ Fr (fun _ => False) w10 w' by have hc := RWrong_any w10 HRd10.out (HG.out.fr (HF2.out.trans HF10.out) id); rw [hee] at hc; exact hc).mono ?_
            rintro e w11 ⟨rfl, hf11⟩
            have HF11 := Lib.hid (HF10.out.trans hf11)
            clear hf11
            go_wp2_with fail
            go_ret
            exact ⟨rfl, HF2.out.trans HF11.out⟩
    · go_wp2_with fail
      go_ret
      exact ⟨rfl, HF2.out.trans HR.out⟩

set_option maxRecDepth 100000 in
theorem XdrAgain_any (s : ByteArray) (l : List OpM) (A : Option Addr) (c : Nat) (w : World) (hg : ErrT w) (_ : s.size ≤ 140737488351232) (h : OpsAt w A l) (hA : ∀ a, A = some a → a.block < w.heap.size) (hl : l.length ≤ 4398046511104) (ho : ∀ o ∈ l, o.Is) :
    Calls Tryz.prog 7 #[.string s, .slice A l.length c] w fun r w' => r = .returned (.bool true) ∧ Fr (fun _ => False) w w' := by
  by_cases hle : addsM s.size (weighsM l (addsM 0 l.length)) ≤ 2147483647
  · exact XdrAgain_in s l A c w hg h hA ho (Nat.le_trans hl (by decide)) hle
  · have h00 : (0 : Int) ≤ addsM 0 l.length := addsM_nonneg (by omega) (by omega)
    have hw0 := weighsM_big l _ h00
    have HAd := Lib.hid (fun w' => addsUp_same (s.size : Int) (weighsM l (addsM 0 l.length)) w' (by omega) (by omega))
    have HWe := Lib.hid (weighs_any l A c w h (Nat.le_trans hl (by decide)) ho)
    clear hg h ho h00 hA hw0
    have hle := Int.not_le.1 hle
    generalize addsM 0 l.length = n0 at *
    generalize weighsM l n0 = wl at *
    generalize addsM s.size wl = z at *
    go_enter Tryz.func7, Tryz.ntmps7
    go_wp2_with fail
    refine HWe.out.mono ?_
    rintro e w' ⟨rfl, hw⟩
    obtain rfl : w = w' := hw
    go_wp2_with fail
    refine (HAd.out w).mono ?_
    rintro e w' ⟨rfl, hw⟩
    obtain rfl : w = w' := hw.symm
    go_wp2_with fail
    go_ret
    exact ⟨rfl, Fr.refl _ _⟩
end Go.Proofs.YtlcjfafmmoncpaaGreatDoor
