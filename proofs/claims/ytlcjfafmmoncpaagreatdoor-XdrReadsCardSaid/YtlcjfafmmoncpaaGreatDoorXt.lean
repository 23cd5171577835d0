/- Package xdr: the number of an error, and what a Writer holds at its end. -/
import Derived.Test.YtlcjfafmmoncpaaGreatDoorXe
import Derived.Test.YtlcjfafmmoncpaaGreatDoorXn
namespace Go.Proofs.YtlcjfafmmoncpaaGreatDoor
open Go.RowKit
set_option linter.unusedVariables false
set_option linter.unusedSimpArgs false

/-- the variable of package errors that names the type error. -/
def ErrT (w : World) : Prop := w.cell? ⟨0, 0, none⟩ = some (.iface 233 (.agg #[.pointer (some ⟨5, 95, none⟩)]))
theorem ErrT.lt {w : World} (h : ErrT w) : 0 < w.heap.size := World.block_lt_of_cell? w ⟨0, 0, none⟩ h
theorem ErrT.keep {w w' : World} (h : ErrT w) (hk : w'.heap[0]? = w.heap[0]?) : ErrT w' := (World.cell?_of_block (w := w) (w' := w') (a := ⟨0, 0, none⟩) hk).trans h
theorem ErrT.fr {w w' : World} {S : Nat → Prop} (h : ErrT w) (hf : Fr S w w') (hs : ¬ S 0) : ErrT w' := h.keep (hf.block _ h.lt hs)
theorem ErrT.below {w w' : World} (h : ErrT w) (hf : Below w.heap.size w w') : ErrT w' := h.keep (hf.block _ h.lt)

theorem told_any (e : Int) (w : World) (hg : ErrT w) : Calls Tryz.prog 94 #[errV e] w fun r w' => r = .returned (.int .i64 e) ∧ Fr (fun _ => False) w w' := by
  rcases errV_form e with ⟨h0, hz⟩ | ⟨h0, hz⟩
  · subst h0
    rw [hz]
    go_enter Tryz.func94, Tryz.ntmps94
    go_wp2_with (go_at_call 141; refine (as_nil _ _).mono ?_; rintro e w' ⟨rfl, rfl⟩)
    go_ret
    exact ⟨rfl, (Fr.refl _ _).alloc _⟩
  · rw [hz]
    clear hz
    have h1 : ErrT (w.alloc (.cells #[.int .i64 0] 169)) := hg.below (by exact (Below.refl _ _).alloc (Nat.le_refl _) _)
    have Hg := Lib.hid h1
    clear hg h1
    go_enter Tryz.func94, Tryz.ntmps94
    go_wp2_with (go_at_call 141; refine (as_hit _ 0 _ _ Hg.out (heap_alloc_new w _)).mono ?_; rintro e w' ⟨rfl, hfr, hb⟩; have k0 := cellOf hb 0; simp at k0; have HB := Lib.hid hb; clear hb)
    go_ret
    exact ⟨rfl, ((Fr.refl _ _).alloc _).then hfr (fun i hi e => by omega)⟩

theorem told_w (e : Int) (w : World) (h0 : e ≠ 0) (hg : ErrT w) : Calls Tryz.prog 94 #[.iface 169 (.agg #[.int .i64 e])] w fun r w' => r = .returned (.int .i64 e) ∧ Fr (fun _ => False) w w' := by
  have h := told_any e w hg
  rwa [show errV e = .iface 169 (.agg #[.int .i64 e]) by simp [errV, h0]] at h

def WSt.body (st : WSt) : ByteArray := if st.e = 0 then st.out else ByteArray.empty

set_option maxRecDepth 100000 in
/-- (*Writer).Done -/
theorem WDone_any {F : Nat → Prop} {b : Nat} {st : WSt} (w : World) (h : Wr w F b st) (hg : ErrT w) :
    Calls Tryz.prog 28 #[.pointer (some ⟨b, 0, none⟩)] w fun r w' => r = .returned (.tuple #[.string st.body, .int .i64 st.e]) ∧ Fr (fun _ => False) w w' := by
  obtain ⟨v, hb, ho, hgv⟩ := h.row
  obtain ⟨A, c, rfl⟩ := owns_slice ho
  have c0 := cellOf hb 0
  have c2 := cellOf hb 2
  simp at c0 c2
  have cv := run_ownStr (P := Tryz.prog) (w := w) 93 9 Tryz.underlying93 Tryz.underlying5 Tryz.underlying9 ho
  clear hb ho hgv
  rcases errV_form st.e with ⟨h0, hz⟩ | ⟨h0, hz⟩
  · rw [show st.body = st.out from if_pos h0, h0]
    rw [hz] at c2
    clear h0 hz
    go_enter Tryz.func28, Tryz.ntmps28
    go_wp2
    go_ret2
    exact ⟨rfl, Fr.refl _ _⟩
  · rw [show st.body = ByteArray.empty from if_neg h0]
    rw [hz] at c2
    clear hz cv c0
    have Hg := Lib.hid hg
    have H0 := Lib.hid h0
    clear hg h0
    go_enter Tryz.func28, Tryz.ntmps28
    go_wp2_with (go_at_call 94; refine (told_w _ _ H0.out Hg.out).mono ?_; rintro e w' ⟨rfl, hfr⟩)
    go_ret2
    exact ⟨rfl, hfr⟩

end Go.Proofs.YtlcjfafmmoncpaaGreatDoor
