/- CredJudges tells true of every two calls: Judge tells what the document's judge tells, asked four times, and the lists that come out share no block.
   Conditions: none beyond the row's own (the listed variables of Go's library hold what the program's text lays).
   Conditions: none beyond the row's own (the listed variables of Go's library hold what the program's text lays). -/
import Derived.Test.YtcooijhndiainaaGreatDoorKl
import Derived.Test.YtcooijhndiainaaGreatDoorKk
import Derived.Test.YtcooijhndiainaaGreatDoorCards
import Derived.Test.YtcooijhndiainaaGreatDoorTie
import Derived.SevenTiedAt
import Derived.JoinedOf
namespace Go.Proofs.YtcooijhndiainaaGreatDoor
open Go.ChangeShapes Go.WideShapes Go.RowKit
open Go.ChangeMaps (open_string shut_string)

set_option maxRecDepth 100000 in
theorem credJudges_walk {H : Type} {enc : TypeId × Value → H} (W : World) (base : Nat) (args : Array Value) (ds : List (DataW H)) (ps : List MemPlace) (hval : ∀ (j : Nat) t v, Tryz.f5.params[j]? = some t → args[j]? = some v → Value.okWide Tryz.prog W .any base t v)
    (hA : DataW.TrodAll enc Tryz.prog W 0 (fun _ => true) true Tryz.f5.params.toList args.toList ds ps) (hE : ErrT W) :
    Calls Tryz.prog 5 args W fun e W' => e = .returned (.bool true) ∧ Fr (fun _ => False) W W' := by
  rw [Tryz.params5] at hA hval
  obtain ⟨v0, v1, d0, d1, p0, p1, rfl, rfl, rfl, h0, h1⟩ := trodAll_two hA
  obtain ⟨x0, rfl⟩ := call_arg (hval 0 50 v0 rfl rfl) h0
  obtain ⟨x1, rfl⟩ := call_arg (hval 1 50 v1 rfl rfl) h1
  exact CredJudges_any x0 x1 W  hE  

set_option maxRecDepth 100000 in
theorem credJudges_said : Rows.CredJudgesSaid :=
  OpenClaim.holds_of_wide 5 Tryz.f5 rfl rfl rfl rfl rfl rfl rfl ⟨rfl, rfl, rfl, rfl, rfl⟩ rfl rfl rfl rfl rfl (by kernel_rfl) Tryz.func5 (by kernel_rfl)
    (of_decide_eq_true (by kernel_rfl)) (by unfold Func.isWrapper; rw [if_neg (of_decide_eq_false (by kernel_rfl))]; exact ⟨rfl, rfl⟩)
    (fun os started H enc _ => law_lifted (s := Rows.credJudgesSpec) os started H enc (by kernel_rfl) Tryz.func5 rfl rfl
      (fun ds h => by match ds, h with | [d0, d1], _ => rfl) (by rw [Tryz.params5]; exact fun t ht => of_decide_eq_true (List.all_eq_true.1 (show ([50, 50].all fun t => decide (Tryz.prog.readableRec t = true ∧ t < Tryz.prog.types.size)) = true by kernel_rfl) t ht))
      (ChangeSpec.witness_at (enc := enc) (C := Tryz.checked) (os := os) (X := fun w _ => laidMetH Tryz.prog laidL w) false (laidWorld os) #[.agg #[.int .i64 0, .int .i64 0, .int .i64 0, .int .i64 0, .int .i64 0, .int .i64 0, .string ByteArray.empty, .int .i64 0, .string ByteArray.empty, .string ByteArray.empty], .agg #[.int .i64 0, .int .i64 0, .int .i64 0, .int .i64 0, .int .i64 0, .int .i64 0, .string ByteArray.empty, .int .i64 0, .string ByteArray.empty, .string ByteArray.empty]] 8 rfl (by kernel_rfl) (by kernel_rfl) (by kernel_rfl) (by kernel_rfl) (by kernel_rfl) (laidWorld_met os _))
      (fun W base args ds ps hval hA hE _ => credJudges_walk W base args ds ps hval hA hE))

theorem credJudges_plain (f : FuncId) (fn : Func) (hf : Tryz.pinned.checked.prog.funcNamed "callbox/callboxlaw11.CredJudges" = some f) (hfn : Tryz.pinned.checked.prog.funcs[f]? = some fn) :
    true = Tryz.pinned.checked.prog.looks [] ∧ ∀ (j : Nat) t, fn.params[j]? = some t → Tryz.pinned.checked.prog.wantsStandIn t = false := by
  obtain rfl : f = 5 := Option.some.inj ((show Tryz.prog.funcNamed "callbox/callboxlaw11.CredJudges" = some 5 by kernel_rfl).symm.trans hf) |>.symm
  obtain rfl : fn = Tryz.f5 := (Option.some.inj (Tryz.func5.symm.trans hfn)).symm
  refine ⟨by kernel_rfl, fun j t ht => ?_⟩
  have hm : t ∈ Tryz.f5.params.toList := Array.mem_toList_iff.2 (Array.mem_of_getElem? ht)
  exact of_decide_eq_true (List.all_eq_true.1 (show (Tryz.f5.params.toList.all fun t => decide (Tryz.prog.wantsStandIn t = false)) = true by kernel_rfl) t hm)

theorem credJudges_card : Rows.CredJudgesCardSaid :=
  Claim7.holds_tied_plain_at .later [] _ _ _ _ credJudges_said (fun _ h => by cases h) (by kernel_rfl) (fun _ h => by cases h) credJudges_row_tie rfl ⟨rfl, rfl⟩ (by kernel_rfl) rfl credJudges_plain (by kernel_rfl)
end Go.Proofs.YtcooijhndiainaaGreatDoor
