/- A script in memory; how much it weighs. -/
import Derived.Test.YtlcjfafmmoncpaaGreatDoorFn
namespace Go.Proofs.YtlcjfafmmoncpaaGreatDoor
open Go.RowKit
set_option linter.unusedVariables false
set_option linter.unusedSimpArgs false

/-- the calls that a slice holds. -/
def OpsAt (w : World) (A : Option Addr) (l : List OpM) : Prop :=
  l = [] ∨ ∃ g off, A = some ⟨g, off, none⟩ ∧ g < w.heap.size ∧ ∀ j, j < l.length → ∀ i, i < 7 → w.cell? ⟨g, off + j * 7 + i, none⟩ = (opCells (l.getD j ⟨0, 0, 0, false, ByteArray.empty, 0, 0⟩))[i]?
theorem OpsAt.keep {w w' : World} {A : Option Addr} {l : List OpM} (h : OpsAt w A l) (hs : w.heap.size ≤ w'.heap.size) (hb : ∀ a, A = some a → w'.heap[a.block]? = w.heap[a.block]?) : OpsAt w' A l := by
  rcases h with h | ⟨g, off, rfl, hg, hc⟩
  · exact .inl h
  · refine .inr ⟨g, off, rfl, by omega, fun j hj i hi => ?_⟩
    rw [← hc j hj i hi]
    simp only [World.cell?, hb _ rfl]

theorem OpsAt.cell {w : World} {A : Option Addr} {l : List OpM} (h : OpsAt w A l) (j : Nat) (hj : j < l.length) : ∃ g off, A = some ⟨g, off, none⟩ ∧ ∀ i, i < 7 → w.cell? ⟨g, off + j * 7 + i, none⟩ = (opCells (l.getD j ⟨0, 0, 0, false, ByteArray.empty, 0, 0⟩))[i]? := by
  rcases h with h | ⟨g, off, rfl, _, hc⟩
  · subst h; simp at hj
  · exact ⟨g, off, rfl, fun i hi => hc j hj i hi⟩

set_option maxRecDepth 100000 in
theorem weighs_any (l : List OpM) (A : Option Addr) (c : Nat) (w : World) (h : OpsAt w A l) (hl : l.length ≤ 140737488355328) (hs : ∀ o ∈ l, o.Is) :
    Calls Tryz.prog 11 #[.slice A l.length c] w fun r w' => r = .returned (.int .i64 (weighsM l (addsM 0 l.length))) ∧ w = w' := by
  have h00 : (0 : Int) ≤ addsM 0 l.length := addsM_nonneg (by omega) (by omega)
  have H := Lib.hid h
  have HS := Lib.hid hs
  have hA := fun w => addsUp_same 0 l.length w (by decide) (by omega)
  clear h hs
  generalize addsM 0 l.length = n0 at *
  go_enter Tryz.func11, Tryz.ntmps11
  go_wp2_with (go_at_call 17; refine (hA _).mono ?_; rintro e w1 ⟨rfl, hw1⟩; obtain rfl : w = w1 := hw1.symm)
  go_loopw [3, 4] (fun n i wr => ∃ k : Nat, k ≤ l.length ∧ i = .int .i64 k ∧ ∃ z : Int, 0 ≤ z ∧ n = .int .i64 z ∧ weighsM (l.drop k) z = weighsM l n0 ∧ wr = w) (fun _ i _ => l.length - (intOf i).toNat)
  case atStart => exact ⟨0, Nat.zero_le _, rfl, n0, h00, rfl, rfl, rfl⟩
  case round =>
    obtain ⟨k, hk, rfl, z, hz0, rfl, hz, hwr⟩ := hrel
    obtain rfl : w = wr := hwr.symm
    have HZ := Lib.hid hz
    clear hz
    by_cases hlt : k < l.length
    · by_cases hb : z ≤ 2147483647
      · obtain ⟨g, off, rfl, hc⟩ := H.out.cell k hlt
        have c4 := hc 4 (by decide)
        have ho := HS.out (l.getD k ⟨0, 0, 0, false, ByteArray.empty, 0, 0⟩) (by rw [getD_lt l _ hlt]; exact List.getElem_mem hlt)
        have hd : l.drop k = l.getD k ⟨0, 0, 0, false, ByteArray.empty, 0, 0⟩ :: l.drop (k + 1) := by rw [getD_lt l _ hlt]; exact List.drop_eq_getElem_cons hlt
        have hz := HZ.out
        rw [hd] at hz
        simp only [weighsM, if_pos hb] at hz
        have HZ2 := Lib.hid hz
        have hsz := ho.s
        clear hd hz hc ho
        generalize l.getD k ⟨0, 0, 0, false, ByteArray.empty, 0, 0⟩ = o at *
        replace c4 : w.cell? ⟨g, off + k * 7 + 4, none⟩ = some (.string o.s) := c4
        have h16 := addsM_nonneg (n := 16) (m := o.s.size) (by decide) (by omega)
        have hs0 : (0 : Int) ≤ (o.s.size : Int) := by omega
        have h160 : (0 : Int) ≤ 16 := by decide
        have hnn := addsM_nonneg hz0 h16
        have HNN := Lib.hid hnn
        clear hnn
        go_wp2_with (go_at_call 17; refine (addsUp_same _ _ _ (by assumption) (by assumption)).mono ?_; rintro e w1 ⟨rfl, hw1⟩; obtain rfl : w = w1 := hw1.symm)
        go_roundw
        case rel => exact ⟨k + 1, by omega, by go_num, _, HNN.out, rfl, HZ2.out, trivial⟩
        case measure => simp [intOf]; omega
      · have hd : l.drop k = l.getD k ⟨0, 0, 0, false, ByteArray.empty, 0, 0⟩ :: l.drop (k + 1) := by rw [getD_lt l _ hlt]; exact List.drop_eq_getElem_cons hlt
        have hz := HZ.out
        rw [hd] at hz
        simp only [weighsM, if_neg hb] at hz
        go_wp2
        go_ret
        exact ⟨by rw [← hz]; rfl, rfl⟩
    · have hz := HZ.out
      rw [List.drop_of_length_le (by omega)] at hz
      simp only [weighsM] at hz
      go_wp2
      go_ret
      exact ⟨by rw [← hz]; rfl, rfl⟩

end Go.Proofs.YtlcjfafmmoncpaaGreatDoor
