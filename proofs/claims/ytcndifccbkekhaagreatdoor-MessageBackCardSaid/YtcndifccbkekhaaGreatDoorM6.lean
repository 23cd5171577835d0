/- MessageBack tells true of every call, reply and text: what was printed is read again as it was, what is read is printed as the text, an error leaves the zero value.
   Conditions: none beyond the row's own (the listed variables of Go's library hold what the program's text lays). -/
import Derived.Test.YtcndifccbkekhaaGreatDoorKl
import Derived.Test.YtcndifccbkekhaaGreatDoorKv
import Derived.Test.YtcndifccbkekhaaGreatDoorM5
import Derived.Test.YtcndifccbkekhaaGreatDoorCards
import Derived.Test.YtcndifccbkekhaaGreatDoorTie
import Derived.SevenTiedAt
import Derived.JoinedOf
namespace Go.Proofs.YtcndifccbkekhaaGreatDoor
open Go.ChangeShapes Go.WideShapes Go.RowKit
set_option linter.unusedVariables false
set_option linter.unusedSimpArgs false
open Go.ChangeMaps (open_string shut_string)
set_option linter.unusedVariables false
set_option linter.unusedSimpArgs false

set_option maxRecDepth 100000 in
theorem messageBack_walk {H : Type} {enc : TypeId × Value → H} (W : World) (base : Nat) (args : Array Value) (ds : List (DataW H)) (ps : List MemPlace) (hval : ∀ (j : Nat) t v, Tryz.f9.params[j]? = some t → args[j]? = some v → Value.okWide Tryz.prog W .any base t v)
    (hA : DataW.TrodAll enc Tryz.prog W 0 (fun _ => true) true Tryz.f9.params.toList args.toList ds ps) (hE : ErrT W) (hsz : (DataW.weightsEach Tryz.prog Tryz.f9.params.toList ds).all (· ≤ reachBytes) = true) :
    Calls Tryz.prog 9 args W fun e W' => e = .returned (.bool true) ∧ Fr (fun _ => False) W W' := by
  rw [Tryz.params9] at hA hval hsz
  obtain ⟨v0, v1, v2, d0, d1, d2, p0, p1, p2, rfl, rfl, rfl, h0, h1, h2⟩ := trodAll_three hA
  obtain ⟨x0, rfl, i0, a0, b0, c0⟩ := call_argI (hval 0 25 v0 rfl rfl) h0
  obtain ⟨x1, rfl, i1, a1, b1⟩ := reply_argI (hval 1 27 v1 rfl rfl) h1
  obtain ⟨x2, rfl, a2⟩ := str_argW (hval 2 9 v2 rfl rfl) h2
  exact MessageBack_any x0 x1 x2 W hE i0 (reach_of hsz 0 rfl rfl a0) (reach_of hsz 0 rfl rfl b0) (reach_of hsz 0 rfl rfl c0) i1 (reach_of hsz 1 rfl rfl a1) (reach_of hsz 1 rfl rfl b1) (reach_of hsz 2 rfl rfl a2)

set_option maxRecDepth 100000 in
theorem messageBack_said : Rows.MessageBackSaid :=
  OpenClaim.holds_of_wide 9 Tryz.f9 rfl rfl rfl rfl rfl rfl rfl ⟨rfl, rfl, rfl, rfl, rfl⟩ rfl rfl rfl rfl rfl (by kernel_rfl) Tryz.func9 (by kernel_rfl)
    (of_decide_eq_true (by kernel_rfl)) (by unfold Func.isWrapper; rw [if_neg (of_decide_eq_false (by kernel_rfl))]; exact ⟨rfl, rfl⟩)
    (fun os started H enc _ => law_lifted (s := Rows.messageBackSpec) os started H enc (by kernel_rfl) Tryz.func9 rfl rfl
      (fun ds h => by match ds, h with | [d0, d1, d2], _ => rfl) (by rw [Tryz.params9]; exact fun t ht => of_decide_eq_true (List.all_eq_true.1 (show ([25, 27, 9].all fun t => decide (Tryz.prog.readableRec t = true ∧ t < Tryz.prog.types.size)) = true by kernel_rfl) t ht))
      (ChangeSpec.witness_at (enc := enc) (C := Tryz.checked) (os := os) (X := fun w _ => laidMetH Tryz.prog laidL w) false (laidWorld os) #[.agg #[.int .i64 0, .int .i64 0, .int .i64 0, .int .i64 0, .int .i64 0, .int .i64 0, .string ByteArray.empty, .int .i64 0, .string ByteArray.empty, .string ByteArray.empty], .agg #[.int .i64 0, .bool false, .int .i64 0, .string ByteArray.empty, .int .i64 0, .int .i64 0, .int .i64 0, .int .i64 0, .int .i64 0, .string ByteArray.empty], .string ByteArray.empty] 8 rfl (by kernel_rfl) (by kernel_rfl) (by kernel_rfl) (by kernel_rfl) (by kernel_rfl) (laidWorld_met os _))
      (fun W base args ds ps hval hA hE hsz => messageBack_walk W base args ds ps hval hA hE hsz))

theorem messageBack_plain (f : FuncId) (fn : Func) (hf : Tryz.pinned.checked.prog.funcNamed "callbox/callboxlaw12.MessageBack" = some f) (hfn : Tryz.pinned.checked.prog.funcs[f]? = some fn) :
    true = Tryz.pinned.checked.prog.looks [] ∧ ∀ (j : Nat) t, fn.params[j]? = some t → Tryz.pinned.checked.prog.wantsStandIn t = false := by
  obtain rfl : f = 9 := Option.some.inj ((show Tryz.prog.funcNamed "callbox/callboxlaw12.MessageBack" = some 9 by kernel_rfl).symm.trans hf) |>.symm
  obtain rfl : fn = Tryz.f9 := (Option.some.inj (Tryz.func9.symm.trans hfn)).symm
  refine ⟨by kernel_rfl, fun j t ht => ?_⟩
  have hm : t ∈ Tryz.f9.params.toList := Array.mem_toList_iff.2 (Array.mem_of_getElem? ht)
  exact of_decide_eq_true (List.all_eq_true.1 (show (Tryz.f9.params.toList.all fun t => decide (Tryz.prog.wantsStandIn t = false)) = true by kernel_rfl) t hm)

theorem messageBack_card : Rows.MessageBackCardSaid :=
  Claim7.holds_tied_plain_at .later [] _ _ _ _ messageBack_said (fun _ h => by cases h) (by kernel_rfl) (fun _ h => by cases h) messageBack_row_tie rfl ⟨rfl, rfl⟩ (by kernel_rfl) rfl messageBack_plain (by kernel_rfl)
end Go.Proofs.YtcndifccbkekhaaGreatDoor
