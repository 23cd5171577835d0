/- callboxlaw11.apart: the walk. -/
import Derived.Test.YtcooijhndiainaaGreatDoorAp
import Derived.Deep.RegionWith
import Derived.IntWalk
namespace Go.Proofs.YtcooijhndiainaaGreatDoor
open Go.RowKit

theorem Tryz.infoInts : (Tryz.prog.info? 22).map (fun i => (i.zero, i.size, i.bytes)) = some (some (.slice none 0 0), 1, 24) := by kernel_rfl
theorem owns_fr {w w' : World} {S : Nat → Prop} {base e size n : Nat} {v : Value} {xs : List Value} (h : w.ownsRow base e size v n xs) (hf : Fr S w w') (hs : ∀ g, v.ownBlock = some g → ¬ S g) : w'.ownsRow base e size v n xs :=
  ownsRow_keep h (fun g e => hf.block g (h.lt g e).2 (hs g e))

/-- rows while they are marked. -/
structure MkR (N : Nat) (ns : Nat → Nat) (lv : Value) (L : List Value) (base : Nat) (w : World) (f : Nat → List Int) : Prop where
  hl : w.ownsRow base 22 1 lv N L
  rows : ∀ j, j < N → w.ownsRow base 3 1 (gAt L j) (ns j) ((f j).map (Value.int .i64))
  len : ∀ j, j < N → (f j).length = ns j
def setRowF (f : Nat → List Int) (i k : Nat) (x : Int) : Nat → List Int := fun j => if j = i then (f i).set k x else f j
theorem MkR.store {N : Nat} {ns : Nat → Nat} {lv : Value} {L : List Value} {base : Nat} {w : World} {f : Nat → List Int} (h : MkR N ns lv L base w f) (ha : Apart N lv L) {i k g c : Nat} (hi : i < N) (hv : gAt L i = .slice (some ⟨g, 0, none⟩) (ns i) c) (x : Int) :
    MkR N ns lv L base (w.setCell ⟨g, k, none⟩ (.int .i64 x)) (setRowF f i k x) := by
  have hb : (gAt L i).ownBlock = some g := by rw [hv]; rfl
  obtain ⟨h1, h2⟩ := ha i hi g hb
  refine ⟨ownsRow_setCell_other h.hl h1 _, fun j hj => ?_, fun j hj => ?_⟩
  · unfold setRowF
    by_cases hji : j = i
    · subst hji
      rw [if_pos rfl, List.map_set, hv]
      have hr := h.rows j hj
      rw [hv] at hr
      exact (hr.stored k _).1
    · rw [if_neg hji]
      exact ownsRow_setCell_other (h.rows j hj) (h2 j hj hji) _
  · unfold setRowF
    by_cases hji : j = i
    · subst hji; rw [if_pos rfl, List.length_set]; exact h.len j hj
    · rw [if_neg hji]; exact h.len j hj
theorem cell_row {w : World} {base e n g c : Nat} {xs : List Value} (h : w.ownsRow base e 1 (.slice (some ⟨g, 0, none⟩) n c) n xs) {j : Nat} (hj : j < n) : w.cell? ⟨g, j, none⟩ = some (gAt xs j) := by
  rw [h.cellAt j (by omega)]
  have : j < xs.length := by have := h.1; omega
  simp [gAt, List.getD, this]
theorem filled {l : List Int} {x : Int} {n : Nat} (hl : l.length = n) (h : ∀ k, k < n → l.getD k 0 = x) : l = List.replicate n x := by
  rw [List.eq_replicate_iff]
  refine ⟨hl, fun b hb => ?_⟩
  obtain ⟨k, hk, rfl⟩ := List.mem_iff_getElem.1 hb
  have := h k (by omega)
  rwa [getD_lt l 0 hk] at this

set_option maxRecDepth 100000 in
set_option maxHeartbeats 8000000 in
theorem apart_any (N : Nat) (xs : Nat → List Int) (L M : List Value) (bl lc bw wc base : Nat) (w : World)
    (hl : w.ownsRow base 22 1 (.slice (some ⟨bl, 0, none⟩) N lc) N L) (hw : w.ownsRow base 22 1 (.slice (some ⟨bw, 0, none⟩) N wc) N M)
    (hg : ∀ j, j < N → w.ownsRow base 3 1 (gAt L j) (xs j).length ((xs j).map (Value.int .i64))) (hm : ∀ j, j < N → ∃ A c, gAt M j = .slice A (xs j).length c ∧ IntsAt w A (xs j))
    (hap : Apart N (.slice (some ⟨bl, 0, none⟩) N lc) L) (hN : N ≤ 1000) (hx : ∀ j, (xs j).length ≤ 1099511600000) :
    Calls Tryz.prog 26 #[.slice (some ⟨bl, 0, none⟩) N lc, .slice (some ⟨bw, 0, none⟩) N wc] w fun r w' => r = .returned (.bool true) ∧ Fr (fun k => base ≤ k) w w' := by
  have HL := Lib.hid hl
  have HW := Lib.hid hw
  have HG := Lib.hid hg
  have HM := Lib.hid hm
  have HAP := Lib.hid hap
  have HX := Lib.hid hx
  have hbase : base ≤ w.heap.size := by have := hl.lt bl rfl; omega
  clear hl hw hg hm hap hx
  go_enter Tryz.func26, Tryz.ntmps26
  go_wp2_with fail
  go_loopw [5, 6] (fun i _ wr => ∃ k : Nat, k ≤ N ∧ i = .int .i64 k ∧ Hid (Fr (fun _ => False) w wr)) (fun i _ _ => N - (intOf i).toNat)
  case atStart => exact ⟨0, Nat.zero_le _, rfl, Lib.hid (Fr.refl _ _)⟩
  case round =>
    obtain ⟨k, hk, rfl, hf⟩ := hrel
    by_cases hlt : k < N
    · have hc1 := cell_row (owns_fr HL.out hf.out (fun _ _ h => h)) hlt
      have hc2 := cell_row (owns_fr HW.out hf.out (fun _ _ h => h)) hlt
      have hg1 := owns_fr (HG.out k hlt) hf.out (fun _ _ h => h)
      obtain ⟨A, c, hA⟩ := owns_slice hg1
      obtain ⟨B, d, hB, hI⟩ := HM.out k hlt
      rw [hA] at hc1 hg1
      rw [hB] at hc2
      have hbl : bl < wr.heap.size := World.block_lt_of_cell? wr ⟨bl, k, none⟩ hc1
      have hbw : bw < wr.heap.size := World.block_lt_of_cell? wr ⟨bw, k, none⟩ hc2
      have hi := fun (w2 : World) (h2 : Fr (fun _ => False) wr w2) => ints_any (xs k) (xs k) A B c d w2 ((IntsAt.ofRow hg1).fr h2 (fun _ _ h => h)) ((hI.fr hf.out (fun _ _ h => h)).fr h2 (fun _ _ h => h)) (by have := HX.out k; omega)
      rw [show decide (xs k = xs k) = true from decide_eq_true rfl] at hi
      have HI := Lib.hid hi
      clear hi hg1 hA hB hI
      go_wp2_with fail
      go_region_with (go_at_call 55; refine (HI.out _ (by exact (Fr.refl _ _).drew)).mono ?_; rintro e w2 ⟨rfl, hf2⟩; have hf2 : Fr (fun _ => False) wr w2 := ⟨hf2.os, hf2.tape, hf2.output, hf2.size, hf2.block⟩)
      all_goals
        go_wp2
        exact ⟨⟨k + 1, by omega, by go_num, Lib.hid (hf.out.trans hf2)⟩, by simp [intOf]; omega⟩
    · have hmk : MkR N (fun j => (xs j).length) (.slice (some ⟨bl, 0, none⟩) N lc) L base wr xs := ⟨owns_fr HL.out hf.out (fun _ _ h => h), fun j hj => owns_fr (HG.out j hj) hf.out (fun _ _ h => h), fun _ _ => rfl⟩
      have HMK := Lib.hid (⟨xs, hmk, fun j hj => absurd hj (Nat.not_lt_zero _)⟩ : ∃ f, MkR N (fun j => (xs j).length) (.slice (some ⟨bl, 0, none⟩) N lc) L base wr f ∧ ∀ j, j < 0 → f j = List.replicate (xs j).length (minus j))
      have HF : Hid (Fr (fun k => base ≤ k) w wr) := Lib.hid (hf.out.mono (fun _ _ h => h.elim))
      clear hmk HL HW HG HM hf
      go_wp2_with fail
      go_loopw [7, 8] (fun i _ wr => ∃ k : Nat, k ≤ N ∧ i = .int .i64 k ∧ Hid (Fr (fun k => base ≤ k) w wr) ∧ Hid (∃ f, MkR N (fun j => (xs j).length) (.slice (some ⟨bl, 0, none⟩) N lc) L base wr f ∧ ∀ j, j < k → f j = List.replicate (xs j).length (minus j))) (fun i _ _ => N - (intOf i).toNat)
      case atStart => exact ⟨0, Nat.zero_le _, rfl, HF, HMK⟩
      case round =>
        clear HF HMK
        obtain ⟨i, hi, rfl, HF, HMK⟩ := hrel
        obtain ⟨f, hmk, hdone⟩ := HMK.out
        by_cases hlt : i < N
        · have hc1 := cell_row hmk.hl hlt
          have hro := hmk.rows i hlt
          obtain ⟨A, c, hA⟩ := owns_slice hro
          rw [hA] at hc1
          have hxl := HX.out i
          have hbl : bl < wr.heap.size := World.block_lt_of_cell? _ ⟨bl, i, none⟩ hc1
          have HMK2 := Lib.hid (⟨f, hmk, hdone, fun k' hk' => absurd hk' (Nat.not_lt_zero _)⟩ : ∃ f, MkR N (fun j => (xs j).length) (.slice (some ⟨bl, 0, none⟩) N lc) L base wr f ∧ (∀ j, j < i → f j = List.replicate (xs j).length (minus j)) ∧ ∀ k', k' < 0 → (f i).getD k' 0 = minus i)
          have HA := Lib.hid hA
          clear hmk hdone hro HMK hA
          go_wp2_with fail
          go_loopw [8] (fun q wr => ∃ k : Nat, k ≤ (xs i).length ∧ q = .int .i64 k ∧ Hid (Fr (fun k => base ≤ k) w wr) ∧ Hid (∃ f, MkR N (fun j => (xs j).length) (.slice (some ⟨bl, 0, none⟩) N lc) L base wr f ∧ (∀ j, j < i → f j = List.replicate (xs j).length (minus j)) ∧ ∀ k', k' < k → (f i).getD k' 0 = minus i)) (fun q _ => (xs i).length - (intOf q).toNat)
          case atStart => exact ⟨0, Nat.zero_le _, rfl, HF, HMK2⟩
          case round =>
            clear HF HMK2 hc1 hbl
            obtain ⟨k, hk, rfl, HF, HMK⟩ := hrel
            obtain ⟨f, hmk, hdone, hfill⟩ := HMK.out
            have hc1 := cell_row hmk.hl hlt
            rw [HA.out] at hc1
            have hbl : bl < wr.heap.size := World.block_lt_of_cell? wr ⟨bl, i, none⟩ hc1
            by_cases hkl : k < (xs i).length
            · have hro := hmk.rows i hlt
              rw [HA.out] at hro
              obtain ⟨g, hg⟩ : ∃ g, A = some ⟨g, 0, none⟩ := by
                rcases hro.2 with ⟨_, h0⟩ | ⟨g, cap, cur, hv, _⟩
                · exact absurd h0 (by omega)
                · injection hv with hv _ _; exact ⟨g, hv⟩
              subst hg
              have hc2 := hro.cellAt k (by omega)
              have hfl := hmk.len i hlt
              have hkf : k < (f i).length := by rw [hfl]; exact hkl
              rw [List.getElem?_map, List.getElem?_eq_getElem hkf] at hc2
              generalize (f i)[k] = y at hc2
              have hfz := hro.frozenAt k
              have hgs : g < wr.heap.size := (hro.lt g rfl).2
              have hgb : base ≤ g := (hro.lt g rfl).1
              have hst := hmk.store HAP.out hlt (k := k) (by exact HA.out) (minus i)
              have HST : Hid (∃ f, MkR N (fun j => (xs j).length) (.slice (some ⟨bl, 0, none⟩) N lc) L base (wr.setCell ⟨g, k, none⟩ (.int .i64 (minus i))) f ∧ (∀ j, j < i → f j = List.replicate (xs j).length (minus j)) ∧ ∀ k', k' < k + 1 → (f i).getD k' 0 = minus i) := Lib.hid ⟨_, hst, fun j hj => by
                  unfold setRowF; rw [if_neg (by omega)]; exact hdone j hj, fun k' hk' => by
                  unfold setRowF
                  rw [if_pos rfl]
                  by_cases hkk : k' = k
                  · subst hkk; simp [List.getD, hkf]
                  · rw [List.getD, List.getElem?_set_ne (by omega)]; exact hfill k' (by omega)⟩
              have HF2 := Lib.hid (HF.out.setCell (p := ⟨g, k, none⟩) (.inl hgb) (.int .i64 (minus i)))
              clear hst hro hfl hkf hdone hfill hmk HMK HF
              go_wp2
              exact ⟨⟨k + 1, by omega, by go_num, HF2, HST⟩, by simp [intOf]; omega⟩
            · have HMK2 := Lib.hid (⟨f, hmk, fun j hj => by
                by_cases hji : j < i
                · exact hdone j hji
                · obtain rfl : j = i := by omega
                  exact filled (hmk.len j hlt) (fun k' hk' => hfill k' (by omega))⟩ : ∃ f, MkR N (fun j => (xs j).length) (.slice (some ⟨bl, 0, none⟩) N lc) L base wr f ∧ ∀ j, j < i + 1 → f j = List.replicate (xs j).length (minus j))
              clear hmk hdone hfill HMK
              go_wp2
              exact ⟨⟨i + 1, by omega, by go_num, HF, HMK2⟩, by simp [intOf]; omega⟩
        · have hk0 : i = N := by omega
          subst hk0
          obtain ⟨f, hmk, hdone⟩ := HMK.out
          have hO : ApO i 0 (fun j => (xs j).length) (.slice (some ⟨bl, 0, none⟩) i lc) L base wr (.slice none 0 0) [] 0 :=
            ⟨hmk.hl, fun j _ hj => by have := hmk.rows j hj; rw [hdone j hj] at this; exact this, World.ownsRow_nil _ _ _ _, fun b hb => (by cases hb), fun e he => absurd he (Nat.not_lt_zero _)⟩
          have HO := Lib.hid (⟨[], hO⟩ : ∃ E, ApO i 0 (fun j => (xs j).length) (.slice (some ⟨bl, 0, none⟩) i lc) L base wr (.slice none 0 0) E (20 * 0))
          obtain ⟨i1, hi1, hza, hzb, hzc⟩ := info_parts Tryz.infoInts
          obtain ⟨i2, hi2, hya, hyb, hyc⟩ := info_parts Tryz.infoInt
          clear hmk hdone hO HMK f hlt hi hk
          go_wp2_with fail
          go_loopw [9, 10] (fun v q wr => ∃ k : Nat, k ≤ i ∧ q = .int .i64 k ∧ Hid (Fr (fun k => base ≤ k) w wr) ∧ Hid (∃ E, ApO i k (fun j => (xs j).length) (.slice (some ⟨bl, 0, none⟩) i lc) L base wr v E (20 * k))) (fun _ q _ => i - (intOf q).toNat)
          case atStart => exact ⟨0, Nat.zero_le _, rfl, HF, HO⟩
          case round =>
            clear HF HO
            obtain ⟨k, hk, rfl, HF, HO⟩ := hrel
            obtain ⟨E, hO⟩ := HO.out
            by_cases hlt : k < i
            · have hc1 := cell_row hO.hl hlt
              have hbl : bl < wr.heap.size := World.block_lt_of_cell? _ ⟨bl, k, none⟩ hc1
              have hI := hO.take hlt HAP.out
              have HI := Lib.hid (⟨E, hI⟩ : ∃ E, ApI i k (fun j => (xs j).length) (.slice (some ⟨bl, 0, none⟩) i lc) L base wr _ E (20 * k + 0) (gAt L k) ((xs k).length + 0))
              have hxl := HX.out k
              clear hO hI HO
              go_wp2_with fail
              clear hc1 hbl
              go_loopw [9, 11, 12] (fun v x q wr => ∃ j : Nat, j ≤ 20 ∧ q = .int .i64 j ∧ Hid (Fr (fun k => base ≤ k) w wr) ∧ Hid (∃ E, ApI i k (fun j => (xs j).length) (.slice (some ⟨bl, 0, none⟩) i lc) L base wr v E (20 * k + j) x ((xs k).length + j))) (fun _ _ q _ => 20 - (intOf q).toNat)
              case atStart => exact ⟨0, by omega, rfl, HF, HI⟩
              case round =>
                clear HF HI
                obtain ⟨j, hj, rfl, HF, HI⟩ := hrel
                obtain ⟨E, hI⟩ := HI.out
                by_cases hjl : j < 20
                · obtain ⟨VA, vc, rfl⟩ := owns_slice hI.all
                  obtain ⟨XA, xc, rfl⟩ := owns_slice hI.xr
                  have H := Lib.hid hI
                  have HB : Hid (base ≤ wr.heap.size) := Lib.hid (Nat.le_trans hbase HF.out.size)
                  clear hI HI
                  go_wp2_with (with_reducible refine wpList_append_ap rfl (.tmp 69) (.tmp 71) 40 rfl base 22 i1 (.slice none 0 0) 24 Tryz.underlying40 hi1 hza hzb hzc rfl (.slice VA (20 * k + j) vc) (20 * k + j) E rfl (H.out.all.alloc _) ⟨wr.heap.size, 0, none⟩ 1 1 [.slice XA ((xs k).length + j) xc] rfl rfl (cell_one_new _ _ _) ?c1 (by decide) ?c2 ?c3 ?c4 ?_)
                  case c1 => intro u hu; rw [List.mem_singleton.1 hu]; rfl
                  case c2 => unfold maxLen; omega
                  case c3 => omega
                  case c4 => rw [World.size_alloc]; have := HB.out; omega
                  intro v' w1 hown1 hg1 hat1
                  have hN1 := H.out.note (w1 := w1) (by omega) (by omega) hown1 hg1 (hat1.imp id (fun h => by rw [World.size_alloc]; exact h.1))
                  have HF1 : Hid (Fr (fun k => base ≤ k) w w1) := Lib.hid ((HF.out.alloc _).grown hg1 (fun b hb => .inl (H.out.all.lt b hb).1))
                  have H1 := Lib.hid hN1
                  have HB1 : Hid (base ≤ w1.heap.size) := Lib.hid (Nat.le_trans hbase HF1.out.size)
                  clear hown1 hg1 hat1 hN1 H HF HB
                  have hmin : (-1 : Int) - k = minus k := rfl
                  have hmw : IntKind.i64.wrap ((-1 : Int) - k) = -1 - (k : Int) := IntWalk.i64_in _ (by omega)
                  go_wp2_with (with_reducible refine wpList_append_ap rfl (.tmp 73) (.tmp 76) 22 rfl base 3 i2 (.int .i64 0) 8 Tryz.underlying22 hi2 hya hyb hyc rfl (.slice XA ((xs k).length + j) xc) ((xs k).length + j) (markL k ((xs k).length + j)) rfl (H1.out.xr.alloc _) ⟨w1.heap.size, 0, none⟩ 1 1 [.int .i64 (minus k)] rfl rfl (cell_one_new _ _ _) ?c1 (by decide) ?c2 ?c3 ?c4 ?_)
                  case c1 => intro u hu; rw [List.mem_singleton.1 hu]; rfl
                  case c2 => unfold maxLen; omega
                  case c3 => omega
                  case c4 => rw [World.size_alloc]; have := HB1.out; omega
                  intro x' w2 hown2 hg2 hat2
                  have hN2 := H1.out.grow (w1 := w2) hown2 hg2 (hat2.imp id (fun h => ⟨by rw [World.size_alloc]; exact h.1, h.2⟩))
                  have HF2 : Hid (Fr (fun k => base ≤ k) w w2) := Lib.hid ((HF1.out.alloc _).grown hg2 (fun b hb => .inl (H1.out.xr.lt b hb).1))
                  have H2 := Lib.hid hN2
                  clear hown2 hg2 hat2 hN2 H1 HF1 HB1 hmin hmw
                  go_wp2
                  exact ⟨⟨j + 1, by omega, by go_num, HF2, Lib.hid ⟨_, H2.out⟩⟩, by simp [intOf]; omega⟩
                · have hj20 : j = 20 := by omega
                  have HO2 := Lib.hid (⟨E, by have := hI.leave; rw [hj20] at this; exact this⟩ : ∃ E, ApO i (k + 1) (fun j => (xs j).length) (.slice (some ⟨bl, 0, none⟩) i lc) L base _ u9 E (20 * (k + 1)))
                  clear hI HI
                  go_wp2
                  exact ⟨⟨k + 1, by omega, by go_num, HF, HO2⟩, by simp [intOf]; omega⟩
            · have hk1 : k = i := by omega
              subst hk1
              obtain ⟨VA, vc, rfl⟩ := owns_slice hO.all
              have H := Lib.hid hO
              clear hO HO
              go_wp2_with fail
              go_loop [13, 14] (fun q _ => ∃ e : Nat, e ≤ 20 * k ∧ q = .int .i64 e) (fun q _ => 20 * k - (intOf q).toNat)
              case atStart => exact ⟨0, Nat.zero_le _, rfl⟩
              case round =>
                obtain ⟨e, he, rfl⟩ := hrel
                by_cases hel : e < 20 * k
                · obtain ⟨A, l, c, h1, h2, h3, h4⟩ := H.out.ents e hel
                  have ha := H.out.all
                  obtain ⟨g, hg⟩ : ∃ g, VA = some ⟨g, 0, none⟩ := by
                    rcases ha.2 with ⟨_, h0⟩ | ⟨g, cap, cur, hv, _⟩
                    · exact absurd h0 (by omega)
                    · injection hv with hv _ _; exact ⟨g, hv⟩
                  subst hg
                  have hc := cell_row ha hel
                  rw [h1] at hc
                  have hgs : g < wr.heap.size := (ha.lt g rfl).2
                  have hq : (-1 : Int) - (e : Int) / 20 = minus (e / 20) := by unfold minus; omega
                  have HQ := Lib.hid hq
                  have H2 := Lib.hid h2
                  clear ha h1 h2 h4 hq
                  go_wp2_with fail
                  go_loop [14] (fun q => ∃ k2 : Nat, k2 ≤ l ∧ q = .int .i64 k2) (fun q => l - (intOf q).toNat)
                  case atStart => exact ⟨0, Nat.zero_le _, rfl⟩
                  case round =>
                    obtain ⟨k2, hk2, rfl⟩ := hrel
                    by_cases hkl : k2 < l
                    · rcases H2.out with h0 | ⟨b, off, rfl, hb, hcc⟩
                      · exact absurd (congrArg List.length h0) (by simp; omega)
                      have hcell := hcc k2 (by simpa using hkl)
                      rw [getD_replicate _ _ _ _ hkl, ← HQ.out] at hcell
                      clear hcc
                      go_wp2
                      exact ⟨⟨k2 + 1, by omega, by go_num⟩, by simp [intOf]; omega⟩
                    · go_wp2
                      exact ⟨⟨e + 1, by omega, by go_num⟩, by simp [intOf]; omega⟩
                · go_wp2
                  go_ret
                  exact ⟨rfl, HF.out⟩
end Go.Proofs.YtcooijhndiainaaGreatDoor
