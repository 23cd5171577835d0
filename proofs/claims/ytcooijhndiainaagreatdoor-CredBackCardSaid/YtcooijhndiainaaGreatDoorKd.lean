/- CredBack tells true of every sys, mark and call: what was printed is read as it was, what is read is printed as it was, and a mark is told just where PrintMark makes the credential.
   Conditions: none beyond the row's own (the listed variables of Go's library hold what the program's text lays). -/
import Derived.Test.YtcooijhndiainaaGreatDoorKl
import Derived.Test.YtcooijhndiainaaGreatDoorKb
import Derived.Test.YtcooijhndiainaaGreatDoorCards
import Derived.Test.YtcooijhndiainaaGreatDoorTie
import Derived.SevenTiedAt
import Derived.JoinedOf
namespace Go.Proofs.YtcooijhndiainaaGreatDoor
open Go.ChangeShapes Go.WideShapes Go.RowKit

set_option maxRecDepth 100000 in
theorem credBack_walk {H : Type} {enc : TypeId × Value → H} (W : World) (base : Nat) (args : Array Value) (ds : List (DataW H)) (ps : List MemPlace) (hval : ∀ (j : Nat) t v, Tryz.f6.params[j]? = some t → args[j]? = some v → Value.okWide Tryz.prog W .any base t v)
    (hA : DataW.TrodAll enc Tryz.prog W 0 (fun _ => true) true Tryz.f6.params.toList args.toList ds ps) (hE : ErrT W) :
    Calls Tryz.prog 6 args W fun e W' => e = .returned (.bool true) ∧ Fr (fun _ => False) W W' := by
  rw [Tryz.params6] at hA hval
  obtain ⟨v0, v1, v2, d0, d1, d2, p0, p1, p2, rfl, rfl, rfl, h0, h1, h2⟩ := trodAll_three hA
  obtain ⟨s, A, cs, rfl, hI0, hl0⟩ := sys_arg (hval 0 24 v0 rfl rfl) h0
  obtain ⟨m, B, cm, rfl, hI1, hl1⟩ := mark_arg (hval 1 26 v1 rfl rfl) h1
  obtain ⟨c, rfl⟩ := call_arg (hval 2 50 v2 rfl rfl) h2
  exact CredBack_any s A cs m B cm c W hI0 hI1 hE hl0 hl1

set_option maxRecDepth 100000 in
theorem credBack_said : Rows.CredBackSaid :=
  OpenClaim.holds_of_wide 6 Tryz.f6 rfl rfl rfl rfl rfl rfl rfl ⟨rfl, rfl, rfl, rfl, rfl⟩ rfl rfl rfl rfl rfl (by kernel_rfl) Tryz.func6 (by kernel_rfl)
    (of_decide_eq_true (by kernel_rfl)) (by unfold Func.isWrapper; rw [if_neg (of_decide_eq_false (by kernel_rfl))]; exact ⟨rfl, rfl⟩)
    (fun os started H enc _ => law_lifted (s := Rows.credBackSpec) os started H enc (by kernel_rfl) Tryz.func6 rfl rfl
      (fun ds h => by match ds, h with | [d0, d1, d2], _ => rfl) (by rw [Tryz.params6]; exact fun t ht => of_decide_eq_true (List.all_eq_true.1 (show ([24, 26, 50].all fun t => decide (Tryz.prog.readableRec t = true ∧ t < Tryz.prog.types.size)) = true by kernel_rfl) t ht))
      (ChangeSpec.witness_at (enc := enc) (C := Tryz.checked) (os := os) (X := fun w _ => laidMetH Tryz.prog laidL w) false (laidWorld os) #[.agg #[.int .i64 0, .string ByteArray.empty, .int .i64 0, .int .i64 0, .slice none 0 0], .agg #[.int .i64 0, .int .i64 0, .int .i64 0, .int .i64 0, .string ByteArray.empty, .int .i64 0, .int .i64 0, .slice none 0 0], .agg #[.int .i64 0, .int .i64 0, .int .i64 0, .int .i64 0, .int .i64 0, .int .i64 0, .string ByteArray.empty, .int .i64 0, .string ByteArray.empty, .string ByteArray.empty]] 8 rfl (by kernel_rfl) (by kernel_rfl) (by kernel_rfl) (by kernel_rfl) (by kernel_rfl) (laidWorld_met os _))
      (fun W base args ds ps hval hA hE _ => credBack_walk W base args ds ps hval hA hE))

theorem credBack_plain (f : FuncId) (fn : Func) (hf : Tryz.pinned.checked.prog.funcNamed "callbox/callboxlaw11.CredBack" = some f) (hfn : Tryz.pinned.checked.prog.funcs[f]? = some fn) :
    true = Tryz.pinned.checked.prog.looks [] ∧ ∀ (j : Nat) t, fn.params[j]? = some t → Tryz.pinned.checked.prog.wantsStandIn t = false := by
  obtain rfl : f = 6 := Option.some.inj ((show Tryz.prog.funcNamed "callbox/callboxlaw11.CredBack" = some 6 by kernel_rfl).symm.trans hf) |>.symm
  obtain rfl : fn = Tryz.f6 := (Option.some.inj (Tryz.func6.symm.trans hfn)).symm
  refine ⟨by kernel_rfl, fun j t ht => ?_⟩
  have hm : t ∈ Tryz.f6.params.toList := Array.mem_toList_iff.2 (Array.mem_of_getElem? ht)
  exact of_decide_eq_true (List.all_eq_true.1 (show (Tryz.f6.params.toList.all fun t => decide (Tryz.prog.wantsStandIn t = false)) = true by kernel_rfl) t hm)

theorem credBack_card : Rows.CredBackCardSaid :=
  Claim7.holds_tied_plain_at .later [] _ _ _ _ credBack_said (fun _ h => by cases h) (by kernel_rfl) (fun _ h => by cases h) credBack_row_tie rfl ⟨rfl, rfl⟩ (by kernel_rfl) rfl credBack_plain (by kernel_rfl)
end Go.Proofs.YtcooijhndiainaaGreatDoor
