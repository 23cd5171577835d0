/- callboxlaw02.XdrBack, walked. -/
import Derived.Test.YtlcjfafmmoncpaaGreatDoorFu
namespace Go.Proofs.YtlcjfafmmoncpaaGreatDoor
open Go.RowKit
set_option linter.unusedVariables false
set_option linter.unusedSimpArgs false

theorem owns_one {w : World} {base e size n : Nat} {v : Value} {xs : List Value} (h : w.ownsRow base e size v n xs) (hn : 0 < n) : ∃ g c, v = .slice (some ⟨g, 0, none⟩) n c ∧ base ≤ g ∧ g < w.heap.size := by
  rcases h.2 with ⟨_, h0⟩ | ⟨g, cap, cur, rfl, hb, hg, _⟩
  · omega
  · exact ⟨g, cap, rfl, hb, lt_of_block hg⟩
theorem news_one {w : World} {b : Nat} {v : Value} {t : TypeId} (h : w.heap[b]? = some (.cells #[v] t (0, 0))) : ∀ j u, [v][j]? = some u → w.cell? ((⟨b, 0, none⟩ : Addr).add j) = some u := by
  intro j u hu
  match j, hu with
  | 0, hu => simp at hu; subst hu; simp [Addr.add]; exact cellOf h 0
theorem heap2 {w : World} {a b : Obj} : ((w.alloc a).alloc b).heap[w.heap.size + 1]? = some b := by
  have := heap_alloc_new (w.alloc a) b
  rwa [World.size_alloc] at this
theorem Wi.len {w0 w : World} {F0 : Nat → Prop} {lo b : Nat} {st : WSt} (h : Wi w0 F0 lo b w st) : Calls Tryz.prog 29 #[.pointer (some ⟨b, 0, none⟩)] w fun r w' => r = .returned (.int .i64 (st.out.size : Nat)) ∧ w = w' := by
  obtain ⟨F, hw, _⟩ := h.wr
  exact WLen_any w hw
def bk0 : WSt := ⟨ByteArray.empty, 2147483648, 0⟩
theorem bk_ok : WOk bk0 := by unfold WOk bk0; decide
theorem WNew_2 (w : World) : Calls Tryz.prog 13 #[.int .i64 2147483648] w fun r w' => r = .returned (.pointer (some ⟨w.heap.size, 0, none⟩)) ∧ Fr (fun _ => False) w w' ∧ Wr w' (fun k => k = w.heap.size) w.heap.size bk0 := WNew_any 2147483648 w (by decide)
theorem bk_all (l : List OpM) (ho : ∀ o ∈ l, o.Is) (hs : (scriptStr l).size ≤ 2147483647) : l.foldl WSt.puts bk0 = ⟨scriptStr l, 2147483648, 0⟩ := by
  have h := puts_all l (st := bk0) ho rfl rfl (by show ((0 : Nat) + (scriptStr l).size : Int) ≤ _; omega)
  rw [h]
  simp [bk0]
theorem Tryz.infoStr02 : (Tryz.prog.info? 9).map (fun i => (i.zero, i.size, i.bytes)) = some (some (.string ByteArray.empty), 1, 16) := by kernel_rfl
/-- the texts that are read, and what becomes of each. -/
def textM (s more : ByteArray) (k : Nat) : ByteArray := if k = 0 then s else if k = 1 then s ++ ⟨#[120]⟩ ++ more else s.extract 0 (s.size - 4)
def wantM (k : Nat) : Int := if k = 0 then 0 else if k = 1 then 21 else 20
theorem textM_gets (l : List OpM) (more : ByteArray) (ho : ∀ o ∈ l, o.Is) (hs : (scriptStr l).size ≤ 2147483647) (k : Nat) (hk : k < 2) (m : Nat) (hm : m < l.length) : ((l.take m).foldl RSt.getsS ⟨textM (scriptStr l) more k, 0⟩).getsB l[m] = true := by
  unfold textM
  match k, hk with
  | 0, _ => rw [if_pos rfl]; have := gets_at l ByteArray.empty ho (by omega) m hm; rwa [ByteArray.append_empty] at this
  | 1, _ => rw [if_neg (by decide), if_pos rfl, ByteArray.append_assoc]; exact gets_at l _ ho (by omega) m hm
theorem textM_done (l : List OpM) (more : ByteArray) (ho : ∀ o ∈ l, o.Is) (hs : (scriptStr l).size ≤ 2147483647) (k : Nat) (hk : k < 2 ∨ 4 ≤ (scriptStr l).size) : (l.foldl RSt.getsS ⟨textM (scriptStr l) more k, 0⟩).doneV = wantM k := by
  unfold textM wantM
  by_cases h0 : k = 0
  · rw [if_pos h0, if_pos h0]
    have := gets_all l ByteArray.empty ho (by omega)
    rw [ByteArray.append_empty] at this
    rw [this]; rfl
  · rw [if_neg h0, if_neg h0]
    by_cases h1 : k = 1
    · rw [if_pos h1, if_pos h1, ByteArray.append_assoc, gets_all l _ ho (by omega)]
      have e : (⟨#[120]⟩ ++ more : ByteArray).size ≠ 0 := by rw [ByteArray.size_append]; show 1 + _ ≠ 0; omega
      unfold RSt.doneV
      rw [if_pos ⟨rfl, e⟩]
    · rw [if_neg h1, if_neg h1]
      have h20 := gets_cut l ho (by omega) (by omega)
      unfold RSt.doneV
      rw [if_neg (fun h => absurd (h20.symm.trans h.1) (by decide)), h20]
theorem take_succ_get (l : List OpM) (k : Nat) (hk : k < l.length) : l.take (k + 1) = l.take k ++ [l[k]] := by rw [List.take_add_one]; simp [hk]
theorem textM_size {s more : ByteArray} (h1 : s.size ≤ 2147483647) (h2 : more.size ≤ 2147483647) (k : Nat) : (textM s more k).size ≤ 140737488351232 := by
  unfold textM
  split
  · omega
  · split
    · simp only [ByteArray.size_append]; show s.size + 1 + _ ≤ _; omega
    · simp only [ByteArray.size_extract]; omega
theorem want_cell {w : World} {b : Nat} {t : TypeId} (h : w.heap[b]? = some (.cells #[.int .i64 0, .int .i64 21, .int .i64 20] t (0, 0))) (k : Nat) (hk : k < 3) : w.cell? ⟨b, k, none⟩ = some (.int .i64 (wantM k)) := by
  rw [cellOf h]
  match k, hk with
  | 0, _ => rfl
  | 1, _ => rfl
  | 2, _ => rfl

set_option maxRecDepth 100000 in
set_option maxHeartbeats 4000000 in
theorem XdrBack_short (l : List OpM) (A : Option Addr) (c : Nat) (more : ByteArray) (w : World) (h : OpsAt w A l) (hA : ∀ a, A = some a → a.block < w.heap.size) (hl : l.length ≤ 140737488355328) (ho : ∀ o ∈ l, o.Is) (hg : ErrT w)
    (hle : addsM (weighsM l (addsM 0 l.length)) more.size ≤ 2147483647) (h4 : (scriptStr l).size < 4) :
    Calls Tryz.prog 6 #[.slice A l.length c, .string more] w fun r w' => r = .returned (.bool true) ∧ Fr (fun _ => False) w w' := by
  have h00 : (0 : Int) ≤ addsM 0 l.length := addsM_nonneg (by omega) (by omega)
  have hw0 := weighsM_big l _ h00
  have hsum := addsM_le hle
  obtain ⟨hs1, hs2⟩ := weighsM_str l _ h00 (by omega)
  have hsz : (scriptStr l).size ≤ 2147483647 := by omega
  have hmz : more.size ≤ 2147483647 := by omega
  have hmod := scriptStr_mod l
  have HG := Lib.hid hg
  have HO := Lib.hid h
  have HIs := Lib.hid ho
  have HAd := Lib.hid (fun w' => addsUp_same (weighsM l (addsM 0 l.length)) (more.size : Int) w' (by omega) (by omega))
  have HWe := Lib.hid (weighs_any l A c w h hl ho)
  have HAw := Lib.hid (awake02_any w hg)
  have HAll := Lib.hid (bk_all l ho hsz)
  have HGets := Lib.hid (textM_gets l more ho hsz)
  have HDone := Lib.hid (textM_done l more ho hsz)
  have HTz := Lib.hid (fun k => textM_size hsz hmz k)
  have HS2 := Lib.hid hs2
  have HA := Lib.hid hA
  clear hg h ho hs1 hs2 h00 hA
  generalize addsM 0 l.length = n0 at *
  generalize weighsM l n0 = wl at *
  generalize hs : scriptStr l = s at *
  clear hs
  have htm : ((s.size : Int)).tmod 4 = 0 := by
    have : (s.size : Int).tmod 4 = ((s.size % 4 : Nat) : Int) := by rw [Int.tmod_eq_emod_of_nonneg (by omega)]; omega
    rw [this, hmod]; rfl
  have HSz := Lib.hid (And.intro hsz (And.intro hmz (And.intro hmod h4)))
  have HN := Lib.hid hle
  generalize addsM wl more.size = z at *
  clear hsum hw0
  go_enter Tryz.func6, Tryz.ntmps6
  go_wp2_with fail
  refine HWe.out.mono ?_
  rintro e w' ⟨rfl, hw⟩
  obtain rfl : w = w' := hw
  go_wp2_with fail
  refine (HAd.out w).mono ?_
  rintro e w' ⟨rfl, hw⟩
  obtain rfl : w = w' := hw.symm
  go_wp2_with fail
  refine HAw.out.mono ?_
  rintro e w1 ⟨rfl, hf1⟩
  have HF1 := Lib.hid hf1
  clear hf1
  go_wp2_with fail
  refine (WNew_2 w1).mono ?_
  rintro e w2 ⟨rfl, hf2, hw2⟩
  have HF2 := Lib.hid (HF1.out.trans hf2)
  have HL := Lib.hid (And.intro HF1.out.size (hw2.low _ rfl))
  have HW2 := Lib.hid (Wi.begin hw2 bk_ok)
  have HO2 := Lib.hid (HO.out.fr HF2.out (fun a ha => ⟨HA.out a ha, id⟩))
  clear hf2 hw2 HF1 HO HAd HWe HAw
  go_wp2_with fail
  go_loopw [7] (fun i wr => ∃ k : Nat, k ≤ l.length ∧ i = .int .i64 k ∧ Hid (Wi w2 (fun k => k = w1.heap.size) w2.heap.size w1.heap.size wr ((l.take k).foldl WSt.puts bk0))) (fun i _ => l.length - (intOf i).toNat)
  case atStart => exact ⟨0, Nat.zero_le _, rfl, Lib.hid (by simpa using HW2.out)⟩
  case round =>
    obtain ⟨k, hk, rfl, HW⟩ := hrel
    clear HW2
    by_cases hlt : k < l.length
    · have hoW := HO2.out.fr HW.out.fr (fun a ha => ⟨Nat.lt_of_lt_of_le (HA.out a ha) HF2.out.size, fun e => by have h1 := HA.out a ha; have h2 := HL.out.1; omega⟩)
      obtain ⟨g, off, rfl, hc⟩ := hoW.cell k hlt
      rw [getD_lt l _ hlt] at hc
      have Ho := Lib.hid (HIs.out l[k] (List.getElem_mem hlt))
      have Hs := Lib.hid (HS2.out l[k] (List.getElem_mem hlt))
      have Ht := Lib.hid (show (l.take (k + 1)).foldl WSt.puts bk0 = ((l.take k).foldl WSt.puts bk0).puts l[k] by rw [take_succ_get l k hlt, List.foldl_append]; rfl)
      generalize l[k] = o at *
      have c0 : wr.cell? ⟨g, off + k * 7, none⟩ = some (.int .i64 o.kind) := hc 0 (by decide)
      have c1 : wr.cell? ⟨g, off + k * 7 + 1, none⟩ = some (.int .i64 o.n) := hc 1 (by decide)
      have c2 : wr.cell? ⟨g, off + k * 7 + 2, none⟩ = some (.int .i64 o.m) := hc 2 (by decide)
      have c3 : wr.cell? ⟨g, off + k * 7 + 3, none⟩ = some (.bool o.other) := hc 3 (by decide)
      have c4 : wr.cell? ⟨g, off + k * 7 + 4, none⟩ = some (.string o.s) := hc 4 (by decide)
      have c5 : wr.cell? ⟨g, off + k * 7 + 5, none⟩ = some (.int .u32 o.single) := hc 5 (by decide)
      have c6 : wr.cell? ⟨g, off + k * 7 + 6, none⟩ = some (.int .u64 o.double) := hc 6 (by decide)
      clear hc hoW
      go_wp2_with fail
      refine (HW.out.puts o Ho.out (by have := Hs.out; omega)).mono ?_
      rintro e w3 ⟨rfl, hi3, -⟩
      have HW3 := Lib.hid hi3
      clear hi3 c0 c1 c2 c3 c4 c5 c6
      go_wp2_with fail
      go_roundw
      case rel => exact ⟨k + 1, by omega, by go_num, Lib.hid (by rw [Ht.out]; exact HW3.out)⟩
      case measure => simp [intOf]; omega
    · have hkl : l.take k = l := List.take_of_length_le (by omega)
      obtain rfl : k = l.length := by omega
      have hwi := HW.out
      rw [hkl, HAll.out] at hwi
      have HWi := Lib.hid hwi
      have HE := Lib.hid (HG.out.fr (HF2.out.late hwi.fr (fun k hk => by subst hk; exact HL.out.1)) id)
      clear hwi hkl HW hlt hk HAll
      go_wp2_with fail
      refine (show Calls Tryz.prog 28 #[.pointer (some ⟨w1.heap.size, 0, none⟩)] wr fun r w' => r = .returned (.tuple #[.string s, .int .i64 0]) ∧ Fr (fun _ => False) wr w' from HWi.out.done HE.out).mono ?_
      rintro e w3 ⟨rfl, hf3⟩
      have HW3 := Lib.hid (HWi.out.keep (S := fun _ => False) hf3 (fun _ h => h.elim))
      clear hf3 HWi HE
      have HF3 := Lib.hid (HF2.out.late HW3.out.fr (fun k hk => by subst hk; exact HL.out.1))
      have HO3 := Lib.hid (HO2.out.fr HW3.out.fr (fun a ha => ⟨Nat.lt_of_lt_of_le (HA.out a ha) HF2.out.size, fun e => by have h1 := HA.out a ha; have h2 := HL.out.1; omega⟩))
      obtain ⟨i0, hi0, hz0, hz1, hz2⟩ := info_parts Tryz.infoStr02
      go_wp2_with (first | (go_at_call 29; refine (show Calls Tryz.prog 29 #[.pointer (some ⟨w1.heap.size, 0, none⟩)] w3 fun r w' => r = .returned (.int .i64 (s.size : Nat)) ∧ w3 = w' from HW3.out.len).mono ?_; rintro e w' ⟨rfl, rfl⟩))
      have HFS := Lib.hid ((HF3.out.alloc (.cells #[.string s, .string (s ++ ⟨#[120]⟩ ++ more)] 9)).alloc (.cells #[.int .i64 0, .int .i64 21, .int .i64 20] 54))
      have HF9 := Lib.hid (HF3.out.alloc (.cells #[.string s, .string (s ++ ⟨#[120]⟩ ++ more)] 9))
      have hown : (w3.alloc (.cells #[.string s, .string (s ++ ⟨#[120]⟩ ++ more)] 9)).heap[w3.heap.size]? = some (.cells #[.string s, .string (s ++ ⟨#[120]⟩ ++ more)] 9 (0, 0)) := heap_alloc_new w3 _
      have HC0 := Lib.hid (show ∀ k, k < 2 → (w3.alloc (.cells #[.string s, .string (s ++ ⟨#[120]⟩ ++ more)] 9)).cell? ⟨w3.heap.size, k, none⟩ = some (.string (textM s more k)) from fun k hk => by
        rw [cellOf hown]
        match k, hk with
        | 0, _ => rfl
        | 1, _ => rfl)
      have HlT := Lib.hid (show w3.heap.size < (w3.alloc (.cells #[.string s, .string (s ++ ⟨#[120]⟩ ++ more)] 9)).heap.size by simp)
      have HO4 := Lib.hid (HO3.out.fr ((Fr.refl (fun _ => False) w3).alloc (.cells #[.string s, .string (s ++ ⟨#[120]⟩ ++ more)] 9)) (fun a ha => ⟨Nat.lt_of_lt_of_le (HA.out a ha) HF3.out.size, id⟩))
      have hsz4 : (w3.alloc (.cells #[.string s, .string (s ++ ⟨#[120]⟩ ++ more)] 9)).heap.size = w3.heap.size + 1 := by simp
      clear hown
      generalize w3.alloc (.cells #[.string s, .string (s ++ ⟨#[120]⟩ ++ more)] 9) = w9 at *
      generalize w3.heap.size = bt at *
      rw [← hsz4]
      clear hsz4
      have HC := Lib.hid (fun k hk => (World.cell?_of_block (a := ⟨bt, k, none⟩) (((Fr.refl (fun _ => False) w9).alloc (.cells #[.int .i64 0, .int .i64 21, .int .i64 20] 54)).block _ HlT.out id)).trans (HC0.out k hk))
      have HWt := Lib.hid (fun k hk => want_cell (heap_alloc_new w9 (.cells #[.int .i64 0, .int .i64 21, .int .i64 20] 54)) k hk)
      have HB := Lib.hid (show bt < (w9.alloc (.cells #[.int .i64 0, .int .i64 21, .int .i64 20] 54)).heap.size ∧ w9.heap.size < (w9.alloc (.cells #[.int .i64 0, .int .i64 21, .int .i64 20] 54)).heap.size by have := HlT.out; simp; omega)
      have HOS := Lib.hid (HO4.out.fr ((Fr.refl (fun _ => False) w9).alloc (.cells #[.int .i64 0, .int .i64 21, .int .i64 20] 54)) (fun a ha => ⟨by have := HA.out a ha; have := HF9.out.size; omega, id⟩))
      have HES := Lib.hid (HG.out.fr HFS.out id)
      clear HC0 HlT HO4
      go_wp2_with fail
      generalize w9.alloc (.cells #[.int .i64 0, .int .i64 21, .int .i64 20] 54) = wS at *
      generalize w9.heap.size = bw at *
      have HA := Lib.hid (And.intro (fun a ha => Nat.lt_of_lt_of_le (HA.out a ha) HFS.out.size) HA.out)
      clear hi0 hz0 hz1 hz2 HO3 HF3 HW3 hmz hsz hmod htm h4 HF2 HO2
      go_loopw [12, 13, 14, 15] (fun q r i x wr => ∃ k : Nat, k ≤ 2 ∧ q = .int .i64 k ∧ (∃ v : Value, r = v) ∧ (∃ v : Value, i = v) ∧ (∃ v : Value, x = v) ∧ Hid (Fr (fun _ => False) wS wr)) (fun q _ _ _ _ => 2 - (intOf q).toNat)
      case atStart => exact ⟨0, by decide, rfl, ⟨_, rfl⟩, ⟨_, rfl⟩, ⟨_, rfl⟩, Lib.hid (Fr.refl _ _)⟩
      case round =>
        obtain ⟨k, hk, rfl, ⟨v1, rfl⟩, ⟨v2, rfl⟩, ⟨v3, rfl⟩, HR⟩ := hrel
        by_cases hlt : k < 2
        · have hk3 : k < 3 := by omega
          have ct := (World.cell?_of_block (HR.out.block _ HB.out.1 id)).trans (HC.out k hlt)
          have HGt := Lib.hid (fun hk2 => HGets.out k hk2)
          have HDt := Lib.hid (HDone.out k (.inl hlt))
          have HTt := Lib.hid (HTz.out k)
          generalize textM s more k = t at *
          go_wp2_with fail
          refine (RNew_any t wr HTt.out).mono ?_
          rintro e w4 ⟨rfl, hf4, hr4⟩
          have HR4 := Lib.hid hr4
          have HF4 := Lib.hid (HR.out.trans hf4)
          have HL4 := Lib.hid (And.intro HR.out.size hr4.lt)
          clear hf4 hr4 ct HR
          go_wp2_with fail
          obtain ⟨wo, rfl⟩ : ∃ wo : World, wo = wr := ⟨_, rfl⟩
          go_loopw [14, 15] (fun i x wi => ∃ m : Nat, m ≤ l.length ∧ i = .int .i64 m ∧ (∃ v : Value, x = v) ∧ Hid (Rd wi wo.heap.size ((l.take m).foldl RSt.getsS ⟨t, 0⟩)) ∧ Hid (Fr (fun k => k = wo.heap.size) w4 wi)) (fun i _ _ => l.length - (intOf i).toNat)
          case atStart => exact ⟨0, Nat.zero_le _, rfl, ⟨_, rfl⟩, Lib.hid (by simpa using HR4.out), Lib.hid (Fr.refl _ _)⟩
          case round =>
            obtain ⟨m, hm, rfl, ⟨v4, rfl⟩, HRd, HFi⟩ := hrel
            by_cases hml : m < l.length
            · have hoW := (HOS.out.fr HF4.out (fun a ha => ⟨HA.out.1 a ha, id⟩)).fr HFi.out (fun a ha => ⟨Nat.lt_of_lt_of_le (HA.out.1 a ha) HF4.out.size, fun e => by have h1 := HA.out.1 a ha; have h2 := HL4.out.1; omega⟩)
              obtain ⟨g, off, rfl, hc⟩ := hoW.cell m hml
              rw [getD_lt l _ hml] at hc
              have Ho := Lib.hid (HIs.out l[m] (List.getElem_mem hml))
              have Ht := Lib.hid (show (l.take (m + 1)).foldl RSt.getsS ⟨t, 0⟩ = ((l.take m).foldl RSt.getsS ⟨t, 0⟩).getsS l[m] by rw [take_succ_get l m hml, List.foldl_append]; rfl)
              have Hb := Lib.hid (fun hk2 => HGt.out hk2 m hml)
              generalize l[m] = o at *
              have c0 : wr.cell? ⟨g, off + m * 7, none⟩ = some (.int .i64 o.kind) := hc 0 (by decide)
              have c1 : wr.cell? ⟨g, off + m * 7 + 1, none⟩ = some (.int .i64 o.n) := hc 1 (by decide)
              have c2 : wr.cell? ⟨g, off + m * 7 + 2, none⟩ = some (.int .i64 o.m) := hc 2 (by decide)
              have c3 : wr.cell? ⟨g, off + m * 7 + 3, none⟩ = some (.bool o.other) := hc 3 (by decide)
              have c4 : wr.cell? ⟨g, off + m * 7 + 4, none⟩ = some (.string o.s) := hc 4 (by decide)
              have c5 : wr.cell? ⟨g, off + m * 7 + 5, none⟩ = some (.int .u32 o.single) := hc 5 (by decide)
              have c6 : wr.cell? ⟨g, off + m * 7 + 6, none⟩ = some (.int .u64 o.double) := hc 6 (by decide)
              clear hc hoW
              have HGe := Lib.hid (gets_any o Ho.out wr HRd.out)
              have key : ((l.take m).foldl RSt.getsS ⟨t, 0⟩).getsB o = true ∨ ¬ k < 2 := by
                by_cases h2 : k < 2
                · exact .inl (Hb.out h2)
                · exact .inr h2
              generalize ((l.take m).foldl RSt.getsS ⟨t, 0⟩).getsB o = bb at *
              rcases key with rfl | hk2
              all_goals
                go_wp2_with fail
                refine HGe.out.mono ?_
                rintro e w5 ⟨rfl, hf5, hr5⟩
                have HR5 := Lib.hid hr5
                have HF5 := Lib.hid (HFi.out.trans hf5)
                clear hf5 hr5 c0 c1 c2 c3 c4 c5 c6
                go_wp2_with fail
              all_goals
                go_roundw
                case rel => exact ⟨m + 1, by omega, by go_num, ⟨_, rfl⟩, Lib.hid (by rw [Ht.out]; exact HR5.out), HF5⟩
                case measure => simp [intOf]; omega
            · obtain rfl : m = l.length := by omega
              have hrd := HRd.out
              rw [List.take_length] at hrd
              have HFo := Lib.hid (HF4.out.then HFi.out (fun i hi e => by have := HL4.out.1; omega))
              have HE := Lib.hid (HES.out.fr HFo.out id)
              have HDn := Lib.hid (RDone_any wr.drew (hrd.keep (w' := wr.drew) rfl) (HE.out.keep (w' := wr.drew) rfl))
              have hdn := HDn.out
              rw [HDt.out] at hdn
              have HDn := Lib.hid hdn
              have cw := (World.cell?_of_block (HFo.out.block _ HB.out.2 id)).trans (HWt.out k (by omega))
              clear hdn hrd HRd HFi HE
              generalize wantM k = wk at *
              go_wp2_with fail
              have hk0 : (0 : Int) ≤ (k : Int) := by omega
              have hk9 : (k : Int) < 3 := by omega
              have hk8 : (k : Int) ≤ 3 := by omega
              go_region_held3 (fun w' => w'.cell? ⟨bw, k, none⟩ = some (.int .i64 wk)) (first | exact cw) (first | (go_at_call 25; refine HDn.out.mono ?_; rintro e w5 ⟨rfl, hf5⟩; have hf5 : Fr (fun _ => False) wr w5 := ⟨hf5.os, hf5.tape, hf5.output, hf5.size, hf5.block⟩; have cw := (World.cell?_of_block (w := wr) (hf5.block _ (Nat.lt_of_lt_of_le HB.out.2 HFo.out.size) id)).trans cw))
              all_goals
                go_wp2
                go_roundw
                case rel => exact ⟨k + 1, by omega, by go_num, ⟨_, rfl⟩, ⟨_, rfl⟩, ⟨_, rfl⟩, Lib.hid (HFo.out.trans hf5)⟩
                case measure => simp [intOf]; omega
        · go_wp2
          go_ret
          exact ⟨rfl, HFS.out.trans HR.out⟩

end Go.Proofs.YtlcjfafmmoncpaaGreatDoor
