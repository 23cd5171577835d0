/- XdrWrites tells true of two Writers of any room and every script: what they hold, behind each call, is what the document holds.
   Conditions: none beyond the row's own (the listed variables of Go's library hold what the program's text lays). -/
import Derived.Test.YtlcjfafmmoncpaaGreatDoorKl
import Derived.Test.YtlcjfafmmoncpaaGreatDoorFx
import Derived.Test.YtlcjfafmmoncpaaGreatDoorIj
import Derived.Test.YtlcjfafmmoncpaaGreatDoorCards
import Derived.Test.YtlcjfafmmoncpaaGreatDoorTie
import Derived.SevenTiedAt
import Derived.JoinedOf
namespace Go.Proofs.YtlcjfafmmoncpaaGreatDoor
open Go.ChangeShapes Go.WideShapes Go.RowKit
set_option linter.unusedVariables false
set_option linter.unusedSimpArgs false
open Go.ChangeMaps (open_string shut_string)
set_option linter.unusedVariables false
set_option linter.unusedSimpArgs false

set_option maxRecDepth 100000 in
theorem xdrWrites_walk {H : Type} {enc : TypeId × Value → H} (W : World) (base : Nat) (args : Array Value) (ds : List (DataW H)) (ps : List MemPlace) (hval : ∀ (j : Nat) t v, Tryz.f4.params[j]? = some t → args[j]? = some v → Value.okWide Tryz.prog W .any base t v)
    (hA : DataW.TrodAll enc Tryz.prog W 0 (fun _ => true) true Tryz.f4.params.toList args.toList ds ps) (hE : ErrT W) (hsz : (DataW.weightsEach Tryz.prog Tryz.f4.params.toList ds).all (· ≤ reachBytes) = true) :
    Calls Tryz.prog 4 args W fun e W' => e = .returned (.bool true) ∧ Fr (fun _ => False) W W' := by
  rw [Tryz.params4] at hA hval hsz
  obtain ⟨v0, v1, v2, d0, d1, d2, p0, p1, p2, rfl, rfl, rfl, h0, h1, h2⟩ := trodAll_three hA
  obtain ⟨x0, rfl, rfl, rfl, a0⟩ := open_int Tryz.underlying3 (hval 0 3 v0 rfl rfl) h0
  obtain ⟨x1, rfl, rfl, rfl, a1⟩ := open_int Tryz.underlying3 (hval 1 3 v1 rfl rfl) h1
  obtain ⟨l2, A2, c2, rfl, a2, b2, e2, i2⟩ := ops_arg (hval 2 35 v2 rfl rfl) h2 (fun n hn => reach_ofX hsz 2 rfl rfl hn)
  exact XdrWrites_any x0 x1 l2 A2 c2 W hE (wf_i64 a0) (wf_i64 a1) a2 b2 e2 i2

set_option maxRecDepth 100000 in
theorem xdrWrites_said : Rows.XdrWritesSaid :=
  OpenClaim.holds_of_wide 4 Tryz.f4 rfl rfl rfl rfl rfl rfl rfl ⟨rfl, rfl, rfl, rfl, rfl⟩ rfl rfl rfl rfl rfl (by kernel_rfl) Tryz.func4 (by kernel_rfl)
    (of_decide_eq_true (by kernel_rfl)) (by unfold Func.isWrapper; rw [if_neg (of_decide_eq_false (by kernel_rfl))]; exact ⟨rfl, rfl⟩)
    (fun os started H enc _ => law_liftedL laidL (fun _ h => errT_of_laid h) (s := Rows.xdrWritesSpec) os started H enc (by kernel_rfl) Tryz.func4 rfl rfl
      (fun ds h => by match ds, h with | [d0, d1, d2], _ => rfl) (by rw [Tryz.params4]; exact fun t ht => of_decide_eq_true (List.all_eq_true.1 (show ([3, 3, 35].all fun t => decide (Tryz.prog.readableRec t = true ∧ t < Tryz.prog.types.size)) = true by kernel_rfl) t ht))
      (ChangeSpec.witness_at (enc := enc) (C := Tryz.checked) (os := os) (X := fun w _ => laidMetH Tryz.prog laidL w) false (laidWorld os) #[.int .i64 0, .int .i64 0, .slice none 0 0] 8 rfl (by kernel_rfl) (by kernel_rfl) (by kernel_rfl) (by kernel_rfl) (by kernel_rfl) (laidWorld_met os _))
      (fun W base args ds ps hval hA hE hsz => xdrWrites_walk W base args ds ps hval hA hE hsz))

theorem xdrWrites_plain (f : FuncId) (fn : Func) (hf : Tryz.pinned.checked.prog.funcNamed "callbox/callboxlaw02.XdrWrites" = some f) (hfn : Tryz.pinned.checked.prog.funcs[f]? = some fn) :
    true = Tryz.pinned.checked.prog.looks [] ∧ ∀ (j : Nat) t, fn.params[j]? = some t → Tryz.pinned.checked.prog.wantsStandIn t = false := by
  obtain rfl : f = 4 := Option.some.inj ((show Tryz.prog.funcNamed "callbox/callboxlaw02.XdrWrites" = some 4 by kernel_rfl).symm.trans hf) |>.symm
  obtain rfl : fn = Tryz.f4 := (Option.some.inj (Tryz.func4.symm.trans hfn)).symm
  refine ⟨by kernel_rfl, fun j t ht => ?_⟩
  have hm : t ∈ Tryz.f4.params.toList := Array.mem_toList_iff.2 (Array.mem_of_getElem? ht)
  exact of_decide_eq_true (List.all_eq_true.1 (show (Tryz.f4.params.toList.all fun t => decide (Tryz.prog.wantsStandIn t = false)) = true by kernel_rfl) t hm)

theorem xdrWrites_card : Rows.XdrWritesCardSaid :=
  Claim7.holds_tied_plain_at .later [] _ _ _ _ xdrWrites_said (fun _ h => by cases h) (by kernel_rfl) (fun _ h => by cases h) xdrWrites_row_tie rfl ⟨rfl, rfl⟩ (by kernel_rfl) rfl xdrWrites_plain (by kernel_rfl)
end Go.Proofs.YtlcjfafmmoncpaaGreatDoor
