/- MessageHeads tells true of every call, reply, text and version: other arguments and results are read with the same heads; a call of another version tells its two numbers.
   Conditions: none beyond the row's own (the listed variables of Go's library hold what the program's text lays). -/
import Derived.Test.YtcndifccbkekhaaGreatDoorKl
import Derived.Test.YtcndifccbkekhaaGreatDoorKv
import Derived.Test.YtcndifccbkekhaaGreatDoorH1
import Derived.Test.YtcndifccbkekhaaGreatDoorCards
import Derived.Test.YtcndifccbkekhaaGreatDoorTie
import Derived.SevenTiedAt
import Derived.JoinedOf
namespace Go.Proofs.YtcndifccbkekhaaGreatDoor
open Go.ChangeShapes Go.WideShapes Go.RowKit
set_option linter.unusedVariables false
set_option linter.unusedSimpArgs false
open Go.ChangeMaps (open_string shut_string)
set_option linter.unusedVariables false
set_option linter.unusedSimpArgs false

set_option maxRecDepth 100000 in
theorem messageHeads_walk {H : Type} {enc : TypeId × Value → H} (W : World) (base : Nat) (args : Array Value) (ds : List (DataW H)) (ps : List MemPlace) (hval : ∀ (j : Nat) t v, Tryz.f10.params[j]? = some t → args[j]? = some v → Value.okWide Tryz.prog W .any base t v)
    (hA : DataW.TrodAll enc Tryz.prog W 0 (fun _ => true) true Tryz.f10.params.toList args.toList ds ps) (hE : ErrT W) (hsz : (DataW.weightsEach Tryz.prog Tryz.f10.params.toList ds).all (· ≤ reachBytes) = true) :
    Calls Tryz.prog 10 args W fun e W' => e = .returned (.bool true) ∧ Fr (fun _ => False) W W' := by
  rw [Tryz.params10] at hA hval hsz
  obtain ⟨v0, v1, v2, v3, d0, d1, d2, d3, p0, p1, p2, p3, rfl, rfl, rfl, h0, h1, h2, h3⟩ := trodAll_four hA
  obtain ⟨x0, rfl, i0, a0, b0, c0⟩ := call_argI (hval 0 25 v0 rfl rfl) h0
  obtain ⟨x1, rfl, i1, a1, b1⟩ := reply_argI (hval 1 27 v1 rfl rfl) h1
  obtain ⟨x2, rfl, a2⟩ := str_argW (hval 2 9 v2 rfl rfl) h2
  obtain ⟨x3, rfl, rfl, rfl, a3⟩ := open_int Tryz.underlying3 (hval 3 3 v3 rfl rfl) h3
  exact MessageHeads_any x0 x1 x2 x3 W hE i0 (reach_of hsz 0 rfl rfl a0) (reach_of hsz 0 rfl rfl b0) (reach_of hsz 0 rfl rfl c0) i1 (reach_of hsz 1 rfl rfl a1) (reach_of hsz 1 rfl rfl b1) (reach_of hsz 2 rfl rfl a2) (int_wf a3)

set_option maxRecDepth 100000 in
theorem messageHeads_said : Rows.MessageHeadsSaid :=
  OpenClaim.holds_of_wide 10 Tryz.f10 rfl rfl rfl rfl rfl rfl rfl ⟨rfl, rfl, rfl, rfl, rfl⟩ rfl rfl rfl rfl rfl (by kernel_rfl) Tryz.func10 (by kernel_rfl)
    (of_decide_eq_true (by kernel_rfl)) (by unfold Func.isWrapper; rw [if_neg (of_decide_eq_false (by kernel_rfl))]; exact ⟨rfl, rfl⟩)
    (fun os started H enc _ => law_lifted (s := Rows.messageHeadsSpec) os started H enc (by kernel_rfl) Tryz.func10 rfl rfl
      (fun ds h => by match ds, h with | [d0, d1, d2, d3], _ => rfl) (by rw [Tryz.params10]; exact fun t ht => of_decide_eq_true (List.all_eq_true.1 (show ([25, 27, 9, 3].all fun t => decide (Tryz.prog.readableRec t = true ∧ t < Tryz.prog.types.size)) = true by kernel_rfl) t ht))
      (ChangeSpec.witness_at (enc := enc) (C := Tryz.checked) (os := os) (X := fun w _ => laidMetH Tryz.prog laidL w) false (laidWorld os) #[.agg #[.int .i64 0, .int .i64 0, .int .i64 0, .int .i64 0, .int .i64 0, .int .i64 0, .string ByteArray.empty, .int .i64 0, .string ByteArray.empty, .string ByteArray.empty], .agg #[.int .i64 0, .bool false, .int .i64 0, .string ByteArray.empty, .int .i64 0, .int .i64 0, .int .i64 0, .int .i64 0, .int .i64 0, .string ByteArray.empty], .string ByteArray.empty, .int .i64 0] 8 rfl (by kernel_rfl) (by kernel_rfl) (by kernel_rfl) (by kernel_rfl) (by kernel_rfl) (laidWorld_met os _))
      (fun W base args ds ps hval hA hE hsz => messageHeads_walk W base args ds ps hval hA hE hsz))

theorem messageHeads_plain (f : FuncId) (fn : Func) (hf : Tryz.pinned.checked.prog.funcNamed "callbox/callboxlaw12.MessageHeads" = some f) (hfn : Tryz.pinned.checked.prog.funcs[f]? = some fn) :
    true = Tryz.pinned.checked.prog.looks [] ∧ ∀ (j : Nat) t, fn.params[j]? = some t → Tryz.pinned.checked.prog.wantsStandIn t = false := by
  obtain rfl : f = 10 := Option.some.inj ((show Tryz.prog.funcNamed "callbox/callboxlaw12.MessageHeads" = some 10 by kernel_rfl).symm.trans hf) |>.symm
  obtain rfl : fn = Tryz.f10 := (Option.some.inj (Tryz.func10.symm.trans hfn)).symm
  refine ⟨by kernel_rfl, fun j t ht => ?_⟩
  have hm : t ∈ Tryz.f10.params.toList := Array.mem_toList_iff.2 (Array.mem_of_getElem? ht)
  exact of_decide_eq_true (List.all_eq_true.1 (show (Tryz.f10.params.toList.all fun t => decide (Tryz.prog.wantsStandIn t = false)) = true by kernel_rfl) t hm)

theorem messageHeads_card : Rows.MessageHeadsCardSaid :=
  Claim7.holds_tied_plain_at .later [] _ _ _ _ messageHeads_said (fun _ h => by cases h) (by kernel_rfl) (fun _ h => by cases h) messageHeads_row_tie rfl ⟨rfl, rfl⟩ (by kernel_rfl) rfl messageHeads_plain (by kernel_rfl)
end Go.Proofs.YtcndifccbkekhaaGreatDoor
