/- Package client: New, of a config that may be. -/
import Derived.Test.YtlcjfafmmoncpaaGreatDoorEc
namespace Go.Proofs.YtlcjfafmmoncpaaGreatDoor
open Go.RowKit
set_option linter.unusedVariables false
set_option linter.unusedSimpArgs false

theorem newCli_mk {c : CfgM} {A : Option Addr} {n : Nat} {w w5 : World} (hI : IntsAt w5 A c.sys.groups) (hF : Fr (fun _ => False) w w5) (hb : ∀ a, A = some a → w.heap.size < a.block ∧ a.block < w5.heap.size ∧ ∃ x, w5.heap[a.block]? = some (.cells x 3 (0, 0))) :
    Fr (fun _ => False) w ((w5.drew.alloc (.cells #[.bool false, .float .f32 0, .float .f32 0] 177)).alloc (.cells (cliCells c A n c.first 0 (.slice none 0 0) (.slice none 0 0) (.pointer (some ⟨w5.heap.size, 0, none⟩))) 131)) ∧
    NewCli c w ((w5.drew.alloc (.cells #[.bool false, .float .f32 0, .float .f32 0] 177)).alloc (.cells (cliCells c A n c.first 0 (.slice none 0 0) (.slice none 0 0) (.pointer (some ⟨w5.heap.size, 0, none⟩))) 131)) (w5.heap.size + 1) := by
  have h5 := hF.size
  refine ⟨(hF.drew.alloc _).alloc _, A, n, w5.heap.size, by omega, h5, by omega, heap_two (w := w5.drew), heap_old (heap_alloc_new w5.drew _), ?_, fun a ha => ?_⟩
  · exact hI.below (((below_ofDrew (Below.refl _ w5.drew)).alloc (Nat.le_refl _) _).alloc (by simp) _)
  · obtain ⟨h1, h2, x, h3⟩ := hb a ha
    exact ⟨by omega, by simp; omega, by omega, by omega, x, heap_old (heap_old (w := w5.drew) h3)⟩

set_option maxRecDepth 100000 in
set_option maxHeartbeats 4000000 in
theorem New_yes (c : CfgM) (A : Option Addr) (n : Nat) (w : World) (hA : IntsAt w A c.sys.groups) (hg : ErrT w) (hal : ∀ a, A = some a → a.block < w.heap.size) (hm : c.sys.machine.size ≤ 140737488351232) (hgl : c.sys.groups.length ≤ 1099511627776) (hok : NewMay c) :
    Calls Tryz.prog 34 #[.agg (cfgCells c A n)] w fun r w' => ∃ b, r = .returned (.tuple #[.pointer (some ⟨b, 0, none⟩), .int .i64 0]) ∧ Fr (fun _ => False) w w' ∧ NewCli c w w' b := by
  have hA1 := hA.below ((Below.refl w.heap.size w).alloc (Nat.le_refl _) (.cells (cfgCells c A n) 28))
  have hP := PrintSys_any c.sys A n (w.alloc (.cells (cfgCells c A n) 28)) hA1 (hg.below ((Below.refl _ _).alloc (Nat.le_refl _) _)) (fun a ha => by have := hal a ha; simp; omega) hm (by omega)
  have hx := Lib.hid (heap_alloc_new w (.cells (cfgCells c A n) 28))
  have HP := Lib.hid hP
  have HR := Lib.hid (Right_any c.pace)
  have HA := Lib.hid hA1
  have HL := Lib.hid hgl
  obtain ⟨h0, h1, h2, h3, h4, h5, h6, h7, h8⟩ := hok
  have e2 : printSysM c.sys = (1, ((newW 1024).sys c.sys).body, 0) := by unfold printSysM; rw [if_pos h8]
  rw [e2] at HP
  rw [h7] at HR
  clear hP hA hg hal hm hgl hA1 e2 h8
  unfold cfgCells paceV sysV at *
  go_enter Tryz.func34, Tryz.ntmps34
  go_wp2_with fail
  refine HP.out.mono ?_
  rintro e w1 ⟨rfl, hf1⟩
  clear HP
  have hx1 := blockMove hx hf1 id
  have HA1 := Lib.hid (HA.out.fr hf1 (fun _ _ h => h))
  have HF := Lib.hid (((Fr.refl (fun _ => False) w).alloc (.cells #[.int .i64 c.addr, .int .i64 c.inst, .int .i64 c.first, .int .i64 c.window, .int .i64 c.pace.base, .int .i64 c.pace.cap, .int .i64 c.pace.tries, .int .i64 c.sys.stamp, .string c.sys.machine, .int .i64 c.sys.user, .int .i64 c.sys.group, .slice A c.sys.groups.length n] 28)).trans hf1)
  clear hx hf1 HA
  have hz1 : w.heap.size < w1.heap.size := lt_of_block hx1.out
  obtain ⟨n0, n1, n2, n3, n4, n5, n6, n7, n8, n9, n10, n11⟩ := box12 hx1
  go_wp2_with (first | (go_at_call 100; refine (isAddress_any _ _).mono ?_; rintro e w2 ⟨rfl, rfl⟩) | (go_at_call 101; refine (HR.out _).mono ?_; rintro e w2 ⟨rfl, hf2⟩; have HF2 := Lib.hid ((HF.out.alloc _).trans hf2); have HA2 := Lib.hid ((HA1.out.fr ((Fr.refl (fun _ => False) w1).alloc _) (fun _ _ h => h)).fr hf2 (fun _ _ h => h)); have hx2 : Hid (w2.heap[w.heap.size]? = _) := Lib.hid ((hf2.block _ (by simp; omega) id).trans (heap_old hx1.out)); have hz2 : w.heap.size < w2.heap.size := lt_of_block hx2.out; clear hf2 n0 n1 n2 n3 n4 n5 n6 n7 n8 n9 n10 n11; obtain ⟨n0, n1, n2, n3, n4, n5, n6, n7, n8, n9, n10, n11⟩ := box12 hx2))
  refine (clone_ints c.sys.groups A n _ HA2.out HL.out).mono ?_
  rintro e w3 ⟨v, rfl, ho, hb⟩
  obtain ⟨A3, c3, rfl⟩ := owns_slice ho
  have HO := Lib.hid ho
  have HB := Lib.hid hb
  clear ho hb n0 n1 n2 n3 n4 n5 n6 n7 n8 n9 n10 n11
  have hx3 : Hid (w3.heap[w.heap.size]? = _) := Lib.hid ((HB.out.block _ hz2).trans hx2.out)
  have hz3 : w.heap.size < w3.heap.size := lt_of_block hx3.out
  have hf11 := freeOf hx3.out 11
  have hc11 := cellOf hx3.out 11
  have hx4 := Lib.hid (setOf' hx3.out 11 (.slice A3 c.sys.groups.length c3))
  simp only [List.setIfInBounds_toArray, List.set_cons_succ, List.set_cons_zero] at hx4
  obtain ⟨n0, n1, n2, n3, n4, n5, n6, n7, n8, n9, n10, n11⟩ := box12 hx4
  clear hx1 hx2 hx3 HA1 HF HR
  go_wp2_with fail
  have hI5 : Hid (IntsAt (w3.setCell ⟨w.heap.size, 11, none⟩ (.slice A3 c.sys.groups.length c3)) A3 c.sys.groups) := Lib.hid ((IntsAt.ofRow HO.out).fr ((Fr.refl (fun k => k = w.heap.size) w3).setCell (.inl rfl) _) (fun a ha e => by have := (HO.out.lt a.block (by rw [ha]; rfl)).1; omega))
  have hF5 : Hid (Fr (fun _ => False) w (w3.setCell ⟨w.heap.size, 11, none⟩ (.slice A3 c.sys.groups.length c3))) := Lib.hid ((HF2.out.then (Fr.ofBelow (S := fun _ => False) HB.out) (fun _ _ h => h)).setCell (.inr (Nat.le_refl _)) _)
  have hb5 : Hid (∀ a, A3 = some a → w.heap.size < a.block ∧ a.block < (w3.setCell ⟨w.heap.size, 11, none⟩ (.slice A3 c.sys.groups.length c3)).heap.size ∧ ∃ x, (w3.setCell ⟨w.heap.size, 11, none⟩ (.slice A3 c.sys.groups.length c3)).heap[a.block]? = some (.cells x 3 (0, 0))) := Lib.hid (fun a ha => by
    have h1 := HO.out.lt a.block (by rw [ha]; rfl)
    refine ⟨by omega, by rw [World.size_setCell]; omega, ?_⟩
    rcases HO.out.2 with ⟨h0, _⟩ | ⟨g, cap, cur, h0, _, hg, _⟩
    · injection h0 with h0; rw [ha] at h0; cases h0
    · injection h0 with h0
      rw [ha] at h0
      injection h0 with h0
      subst h0
      exact ⟨cur, (Below.heap_setCell _ _ _ _ (by show g ≠ w.heap.size; intro e; rw [e] at h1; omega)).trans hg⟩)
  have hz5 : w.heap.size < (w3.setCell ⟨w.heap.size, 11, none⟩ (.slice A3 c.sys.groups.length c3)).heap.size := by rw [World.size_setCell]; exact hz3
  clear HO HB HA2 HF2 hf11 hc11 hz1 hz2 hz3 HL
  generalize w3.setCell ⟨w.heap.size, 11, none⟩ (.slice A3 c.sys.groups.length c3) = w5 at *
  go_region_with (go_at_call 103; refine (NewMeter_any _).mono ?_; rintro e w6 ⟨rfl, rfl⟩)
  all_goals (
    go_wp2
    refine bodyPost_ret (v := .tuple #[.pointer (some ⟨w5.heap.size + 1, 0, none⟩), .int .i64 0]) ?_ rfl ⟨_, rfl, newCli_mk hI5.out hF5.out hb5.out⟩
    simp [results, Tryz.results34, go_sem])
end Go.Proofs.YtlcjfafmmoncpaaGreatDoor
