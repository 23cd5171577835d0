/- The chapter's examples: what they tell. -/
import Derived.Test.YtlcjfafmmoncpaaGreatDoorFq
namespace Go.Proofs.YtlcjfafmmoncpaaGreatDoor
open Go.RowKit
set_option linter.unusedVariables false
set_option linter.unusedSimpArgs false

def aw0 : WSt := ⟨ByteArray.empty, 100, 0⟩
def aw1 : WSt := ⟨⟨#[255, 255, 255, 255]⟩, 100, 0⟩
def aw2 : WSt := ⟨⟨#[255, 255, 255, 255, 104, 105, 0, 0]⟩, 100, 0⟩
def aw3 : WSt := ⟨⟨#[255, 255, 255, 255, 104, 105, 0, 0, 0, 0, 0, 5, 97, 98, 99, 100, 101, 0, 0, 0]⟩, 100, 0⟩
def aw4 : WSt := ⟨⟨#[255, 255, 255, 255, 104, 105, 0, 0, 0, 0, 0, 5, 97, 98, 99, 100, 101, 0, 0, 0, 63, 128, 0, 0]⟩, 100, 0⟩
def av0 : WSt := ⟨ByteArray.empty, 7, 0⟩
def av1 : WSt := ⟨⟨#[0, 0, 0, 1]⟩, 7, 0⟩
def av2 : WSt := ⟨⟨#[0, 0, 0, 1]⟩, 7, 23⟩
def ar0 : RSt := ⟨⟨#[0, 0, 0, 2, 97, 98, 99, 0]⟩, 0⟩
def ar1 : RSt := ⟨⟨#[97, 98, 99, 0]⟩, 0⟩
def ar2 : RSt := ⟨ByteArray.empty, 0⟩
theorem aw_1 : aw0.int (-1) = aw1 := by kernel_rfl
theorem aw_2 : aw1.fixed 2 ⟨#[104, 105]⟩ = aw2 := by kernel_rfl
theorem aw_3 : aw2.opq 9 ⟨#[97, 98, 99, 100, 101]⟩ = aw3 := by kernel_rfl
theorem aw_4 : aw3.float 1065353216 = aw4 := by kernel_rfl
theorem aw_5 : aw4.body = ⟨#[255, 255, 255, 255, 104, 105, 0, 0, 0, 0, 0, 5, 97, 98, 99, 100, 101, 0, 0, 0, 63, 128, 0, 0]⟩ := by kernel_rfl
theorem av_1 : av0.int 1 = av1 := by kernel_rfl
theorem av_2 : av1.int 2 = av2 := by kernel_rfl
theorem ar_1 : ar0.uint = ar1 := by kernel_rfl
theorem ar_2 : ar0.uintV = 2 := by kernel_rfl
theorem ar_3 : ar1.fixedS 3 = ar2 := by kernel_rfl
theorem ar_4 : ar1.fixedV 3 = ⟨#[97, 98, 99]⟩ := by kernel_rfl
theorem ar_5 : ar2.doneV = 0 := by kernel_rfl
theorem aw_bits : bitsF .f32 1065353216 < widthF .f32 := by decide
theorem aw_ok : WOk aw0 := by unfold WOk aw0; decide
theorem av_ok : WOk av0 := by unfold WOk av0; decide

section
variable {w0 w : World} {F0 : Nat → Prop} {lo b : Nat}
theorem awk_1 (h : Wi w0 F0 lo b w aw0) : Calls Tryz.prog 45 #[.pointer (some ⟨b, 0, none⟩), .int .i64 (-1)] w fun r w' => r = .returned (.tuple #[]) ∧ Wi w0 F0 lo b w' aw1 := by
  have hc := h.int (-1); rw [aw_1] at hc; exact hc.mono fun _ _ h => ⟨h.1, h.2.1⟩
theorem awk_2 (h : Wi w0 F0 lo b w aw1) : Calls Tryz.prog 46 #[.pointer (some ⟨b, 0, none⟩), .int .i64 2, .string ⟨#[104, 105]⟩] w fun r w' => r = .returned (.tuple #[]) ∧ Wi w0 F0 lo b w' aw2 := by
  have hc := h.fixed 2 ⟨#[104, 105]⟩ (by decide); rw [aw_2] at hc; exact hc.mono fun _ _ h => ⟨h.1, h.2.1⟩
theorem awk_3 (h : Wi w0 F0 lo b w aw2) : Calls Tryz.prog 47 #[.pointer (some ⟨b, 0, none⟩), .int .i64 9, .string ⟨#[97, 98, 99, 100, 101]⟩] w fun r w' => r = .returned (.tuple #[]) ∧ Wi w0 F0 lo b w' aw3 := by
  have hc := h.opq 9 ⟨#[97, 98, 99, 100, 101]⟩ (by decide); rw [aw_3] at hc; exact hc.mono fun _ _ h => ⟨h.1, h.2.1⟩
theorem awk_4 (h : Wi w0 F0 lo b w aw3) : Calls Tryz.prog 48 #[.pointer (some ⟨b, 0, none⟩), .float .f32 1065353216] w fun r w' => r = .returned (.tuple #[]) ∧ Wi w0 F0 lo b w' aw4 := by
  have hc := h.float 1065353216 aw_bits; rw [aw_4] at hc; exact hc.mono fun _ _ h => ⟨h.1, h.2.1⟩
theorem awk_5 (h : Wi w0 F0 lo b w aw4) (hg : ErrT w) : Calls Tryz.prog 28 #[.pointer (some ⟨b, 0, none⟩)] w fun r w' => r = .returned (.tuple #[.string ⟨#[255, 255, 255, 255, 104, 105, 0, 0, 0, 0, 0, 5, 97, 98, 99, 100, 101, 0, 0, 0, 63, 128, 0, 0]⟩, .int .i64 0]) ∧ Fr (fun _ => False) w w' := by
  have hc := h.done hg; rw [aw_5] at hc; exact hc
theorem avk_1 (h : Wi w0 F0 lo b w av0) : Calls Tryz.prog 45 #[.pointer (some ⟨b, 0, none⟩), .int .i64 1] w fun r w' => r = .returned (.tuple #[]) ∧ Wi w0 F0 lo b w' av1 := by
  have hc := h.int 1; rw [av_1] at hc; exact hc.mono fun _ _ h => ⟨h.1, h.2.1⟩
theorem avk_2 (h : Wi w0 F0 lo b w av1) : Calls Tryz.prog 45 #[.pointer (some ⟨b, 0, none⟩), .int .i64 2] w fun r w' => r = .returned (.tuple #[]) ∧ Wi w0 F0 lo b w' av2 := by
  have hc := h.int 2; rw [av_2] at hc; exact hc.mono fun _ _ h => ⟨h.1, h.2.1⟩
theorem avk_3 (h : Wi w0 F0 lo b w av2) (hg : ErrT w) : Calls Tryz.prog 28 #[.pointer (some ⟨b, 0, none⟩)] w fun r w' => ∃ s, r = .returned (.tuple #[.string s, .int .i64 23]) ∧ Fr (fun _ => False) w w' := by
  have hc := h.done hg; exact hc.mono fun _ _ h => ⟨_, h⟩
theorem avk_4 (h : Wi w0 F0 lo b w av2) : Calls Tryz.prog 29 #[.pointer (some ⟨b, 0, none⟩)] w fun r w' => r = .returned (.int .i64 4) ∧ w = w' := by
  obtain ⟨F, hw, _⟩ := h.wr
  exact WLen_any w hw
theorem ark_1 (h : Rd w b ar0) : Calls Tryz.prog 49 #[.pointer (some ⟨b, 0, none⟩)] w fun r w' => r = .returned (.int .i64 2) ∧ Fr (fun k => k = b) w w' ∧ Rd w' b ar1 := by
  have hc := RUint_any w h; rw [ar_1, ar_2] at hc; exact hc.mono fun _ _ h => ⟨h.1, h.2.1, h.2.2.2⟩
theorem ark_2 (h : Rd w b ar1) : Calls Tryz.prog 50 #[.pointer (some ⟨b, 0, none⟩), .int .i64 3] w fun r w' => r = .returned (.string ⟨#[97, 98, 99]⟩) ∧ Fr (fun k => k = b) w w' ∧ Rd w' b ar2 := by
  have hc := RFixed_any 3 w h; rw [ar_3, ar_4] at hc; exact hc.mono fun _ _ h => ⟨h.1, h.2.1, h.2.2.2⟩
theorem ark_3 (h : Rd w b ar2) (hg : ErrT w) : Calls Tryz.prog 25 #[.pointer (some ⟨b, 0, none⟩)] w fun r w' => r = .returned (.int .i64 0) ∧ Fr (fun _ => False) w w' := by
  have hc := RDone_any w h hg; rw [ar_5] at hc; exact hc
end
theorem WNew_0 (w : World) : Calls Tryz.prog 13 #[.int .i64 100] w fun r w' => r = .returned (.pointer (some ⟨w.heap.size, 0, none⟩)) ∧ Fr (fun _ => False) w w' ∧ Wr w' (fun k => k = w.heap.size) w.heap.size aw0 := WNew_any 100 w (by decide)
theorem WNew_1 (w : World) : Calls Tryz.prog 13 #[.int .i64 7] w fun r w' => r = .returned (.pointer (some ⟨w.heap.size, 0, none⟩)) ∧ Fr (fun _ => False) w w' ∧ Wr w' (fun k => k = w.heap.size) w.heap.size av0 := WNew_any 7 w (by decide)
theorem RNew_0 (w : World) : Calls Tryz.prog 18 #[.string ⟨#[0, 0, 0, 2, 97, 98, 99, 0]⟩] w fun r w' => r = .returned (.pointer (some ⟨w.heap.size, 0, none⟩)) ∧ Fr (fun _ => False) w w' ∧ Rd w' w.heap.size ar0 := RNew_any _ w (by decide)

/-- blocks that came later than the world. -/
def Late (w : World) : Nat → Prop := fun k => w.heap.size ≤ k
theorem Fr.late {w w1 w2 : World} {S : Nat → Prop} (h : Fr (fun _ => False) w w1) (hf : Fr S w1 w2) (hS : ∀ k, S k → w.heap.size ≤ k) : Fr (fun _ => False) w w2 :=
  h.then hf (fun i hi hs => by have := hS i hs; omega)

set_option maxRecDepth 100000 in
set_option maxHeartbeats 4000000 in
theorem awake02_any (w : World) (hg : ErrT w) : Calls Tryz.prog 12 #[] w fun r w' => r = .returned (.bool true) ∧ Fr (fun _ => False) w w' := by
  have HG := Lib.hid hg
  clear hg
  go_enter Tryz.func12, Tryz.ntmps12
  go_wp2_with fail
  refine (WNew_0 w).mono ?_
  rintro e w1 ⟨rfl, hf, ha⟩
  have HF1 := Lib.hid hf
  have HA1 := Lib.hid ha
  clear hf ha
  go_wp2_with fail
  refine (RNew_0 w1).mono ?_
  rintro e w2 ⟨rfl, hf, hr⟩
  have HA2 := Lib.hid (HA1.out.fr hf (fun _ _ => id))
  have HF2 := Lib.hid (HF1.out.trans hf)
  have HR2 := Lib.hid hr
  have l1 := HF1.out.size
  have l2 := hf.size
  have l1' := HA1.out.low _ rfl
  have l2' := hr.lt
  clear hf hr HF1 HA1
  go_wp2_with fail
  refine (WNew_1 w2).mono ?_
  rintro e w3 ⟨rfl, hf, hv⟩
  have HA3 := Lib.hid (Wi.begin (HA2.out.fr hf (fun _ _ => id)) aw_ok)
  have HV3 := Lib.hid hv
  have HR3 := Lib.hid (HR2.out.fr hf id)
  have HF3 := Lib.hid (HF2.out.trans hf)
  have l3 := hf.size
  have l3' := hv.low _ rfl
  clear hf hv HA2 HR2 HF2
  have L := Lib.hid (And.intro l1 (And.intro l1' (And.intro l2 (And.intro l2' (And.intro l3 l3')))))
  clear l1 l1' l2 l2' l3 l3'
  go_wp2_with fail
  refine (awk_1 HA3.out).mono ?_
  rintro e w4 ⟨rfl, h⟩
  have HA4 := Lib.hid h
  clear h HA3
  go_wp2_with fail
  refine (awk_2 HA4.out).mono ?_
  rintro e w5 ⟨rfl, h⟩
  have HA5 := Lib.hid h
  clear h HA4
  go_wp2_with fail
  refine (awk_3 HA5.out).mono ?_
  rintro e w6 ⟨rfl, h⟩
  have HA6 := Lib.hid h
  clear h HA5
  go_wp2_with fail
  refine (awk_4 HA6.out).mono ?_
  rintro e w7 ⟨rfl, h⟩
  have HF7 := Lib.hid (HF3.out.late h.fr (fun k hk => by subst hk; exact Nat.le_refl _))
  have HR7 := Lib.hid (HR3.out.fr h.fr (fun e => by have := L.out; omega))
  have HV7 := Lib.hid (HV3.out.fr h.fr (fun g hg e => by have := L.out; omega))
  have HA7 := Lib.hid h
  clear h HA6 HF3 HR3 HV3
  go_wp2_with fail
  refine (awk_5 HA7.out (HG.out.fr HF7.out id)).mono ?_
  rintro e w8 ⟨rfl, hf⟩
  have HF8 := Lib.hid (HF7.out.trans hf)
  have HR8 := Lib.hid (HR7.out.fr hf id)
  have HV8 := Lib.hid (HV7.out.fr hf (fun _ _ => id))
  clear hf HA7 HF7 HR7 HV7
  go_wp2_with fail
  refine (ark_1 HR8.out).mono ?_
  rintro e w9 ⟨rfl, hf, hr⟩
  have HF9 := Lib.hid (HF8.out.late hf (fun k hk => by have := L.out; omega))
  have HV9 := Lib.hid (HV8.out.fr hf (fun g hg e => by have := L.out; omega))
  have HR9 := Lib.hid hr
  clear hf hr HF8 HV8 HR8
  go_wp2_with fail
  refine (ark_2 HR9.out).mono ?_
  rintro e w10 ⟨rfl, hf, hr⟩
  have HF10 := Lib.hid (HF9.out.late hf (fun k hk => by have := L.out; omega))
  have HV10 := Lib.hid (HV9.out.fr hf (fun g hg e => by have := L.out; omega))
  have HR10 := Lib.hid hr
  clear hf hr HF9 HV9 HR9
  go_wp2_with fail
  refine (ark_3 HR10.out (HG.out.fr HF10.out id)).mono ?_
  rintro e w11 ⟨rfl, hf⟩
  have HF11 := Lib.hid (HF10.out.trans hf)
  have HV11 := Lib.hid (Wi.begin (HV10.out.fr hf (fun _ _ => id)) av_ok)
  clear hf HF10 HV10 HR10
  go_wp2_with fail
  refine (avk_1 HV11.out).mono ?_
  rintro e w12 ⟨rfl, h⟩
  have HV12 := Lib.hid h
  clear h HV11
  go_wp2_with fail
  refine (avk_2 HV12.out).mono ?_
  rintro e w13 ⟨rfl, h⟩
  have HF13 := Lib.hid (HF11.out.late h.fr (fun k hk => by have := L.out; omega))
  have HV13 := Lib.hid h
  clear h HV12 HF11
  go_wp2_with fail
  refine (avk_3 HV13.out (HG.out.fr HF13.out id)).mono ?_
  rintro e w14 ⟨s, rfl, hf⟩
  have HF14 := Lib.hid (HF13.out.trans hf)
  have HV14 := Lib.hid (HV13.out.keep (S := fun _ => False) hf (fun _ h => h.elim))
  clear hf HV13 HF13
  go_wp2_with (go_at_call 29; refine (avk_4 HV14.out).mono ?_; rintro e w' ⟨rfl, rfl⟩)
  go_ret
  exact ⟨rfl, HF14.out⟩
end Go.Proofs.YtlcjfafmmoncpaaGreatDoor
