/- XdrAgain tells true of every text and every script: whatever is read of a text by calls, as long as nothing is wrong, is laid down by the same calls as just the bytes that were taken; where something is wrong nothing more is taken.
   Conditions: none beyond the row's own (the listed variables of Go's library hold what the program's text lays). -/
import Derived.Test.YtlcjfafmmoncpaaGreatDoorKl
import Derived.Test.YtlcjfafmmoncpaaGreatDoorFx
import Derived.Test.YtlcjfafmmoncpaaGreatDoorGc
import Derived.Test.YtlcjfafmmoncpaaGreatDoorCards
import Derived.Test.YtlcjfafmmoncpaaGreatDoorTie
import Derived.SevenTiedAt
import Derived.JoinedOf
namespace Go.Proofs.YtlcjfafmmoncpaaGreatDoor
open Go.ChangeShapes Go.WideShapes Go.RowKit
set_option linter.unusedVariables false
set_option linter.unusedSimpArgs false
open Go.ChangeMaps (open_string shut_string)
set_option linter.unusedVariables false
set_option linter.unusedSimpArgs false

set_option maxRecDepth 100000 in
theorem xdrAgain_walk {H : Type} {enc : TypeId × Value → H} (W : World) (base : Nat) (args : Array Value) (ds : List (DataW H)) (ps : List MemPlace) (hval : ∀ (j : Nat) t v, Tryz.f7.params[j]? = some t → args[j]? = some v → Value.okWide Tryz.prog W .any base t v)
    (hA : DataW.TrodAll enc Tryz.prog W 0 (fun _ => true) true Tryz.f7.params.toList args.toList ds ps) (hE : ErrT W) (hsz : (DataW.weightsEach Tryz.prog Tryz.f7.params.toList ds).all (· ≤ reachBytes) = true) :
    Calls Tryz.prog 7 args W fun e W' => e = .returned (.bool true) ∧ Fr (fun _ => False) W W' := by
  rw [Tryz.params7] at hA hval hsz
  obtain ⟨v0, v1, d0, d1, p0, p1, rfl, rfl, rfl, h0, h1⟩ := trodAll_two hA
  obtain ⟨x0, rfl, a0⟩ := str_argX (hval 0 9 v0 rfl rfl) h0
  obtain ⟨l1, A1, c1, rfl, a1, b1, e1, i1⟩ := ops_arg (hval 1 35 v1 rfl rfl) h1 (fun n hn => reach_ofX hsz 1 rfl rfl hn)
  exact XdrAgain_any x0 l1 A1 c1 W hE (reach_ofX hsz 0 rfl rfl a0) a1 b1 e1 i1

set_option maxRecDepth 100000 in
theorem xdrAgain_said : Rows.XdrAgainSaid :=
  OpenClaim.holds_of_wide 7 Tryz.f7 rfl rfl rfl rfl rfl rfl rfl ⟨rfl, rfl, rfl, rfl, rfl⟩ rfl rfl rfl rfl rfl (by kernel_rfl) Tryz.func7 (by kernel_rfl)
    (of_decide_eq_true (by kernel_rfl)) (by unfold Func.isWrapper; rw [if_neg (of_decide_eq_false (by kernel_rfl))]; exact ⟨rfl, rfl⟩)
    (fun os started H enc _ => law_liftedL laidL (fun _ h => errT_of_laid h) (s := Rows.xdrAgainSpec) os started H enc (by kernel_rfl) Tryz.func7 rfl rfl
      (fun ds h => by match ds, h with | [d0, d1], _ => rfl) (by rw [Tryz.params7]; exact fun t ht => of_decide_eq_true (List.all_eq_true.1 (show ([9, 35].all fun t => decide (Tryz.prog.readableRec t = true ∧ t < Tryz.prog.types.size)) = true by kernel_rfl) t ht))
      (ChangeSpec.witness_at (enc := enc) (C := Tryz.checked) (os := os) (X := fun w _ => laidMetH Tryz.prog laidL w) false (laidWorld os) #[.string ByteArray.empty, .slice none 0 0] 8 rfl (by kernel_rfl) (by kernel_rfl) (by kernel_rfl) (by kernel_rfl) (by kernel_rfl) (laidWorld_met os _))
      (fun W base args ds ps hval hA hE hsz => xdrAgain_walk W base args ds ps hval hA hE hsz))

theorem xdrAgain_plain (f : FuncId) (fn : Func) (hf : Tryz.pinned.checked.prog.funcNamed "callbox/callboxlaw02.XdrAgain" = some f) (hfn : Tryz.pinned.checked.prog.funcs[f]? = some fn) :
    true = Tryz.pinned.checked.prog.looks [] ∧ ∀ (j : Nat) t, fn.params[j]? = some t → Tryz.pinned.checked.prog.wantsStandIn t = false := by
  obtain rfl : f = 7 := Option.some.inj ((show Tryz.prog.funcNamed "callbox/callboxlaw02.XdrAgain" = some 7 by kernel_rfl).symm.trans hf) |>.symm
  obtain rfl : fn = Tryz.f7 := (Option.some.inj (Tryz.func7.symm.trans hfn)).symm
  refine ⟨by kernel_rfl, fun j t ht => ?_⟩
  have hm : t ∈ Tryz.f7.params.toList := Array.mem_toList_iff.2 (Array.mem_of_getElem? ht)
  exact of_decide_eq_true (List.all_eq_true.1 (show (Tryz.f7.params.toList.all fun t => decide (Tryz.prog.wantsStandIn t = false)) = true by kernel_rfl) t hm)

theorem xdrAgain_card : Rows.XdrAgainCardSaid :=
  Claim7.holds_tied_plain_at .later [] _ _ _ _ xdrAgain_said (fun _ h => by cases h) (by kernel_rfl) (fun _ h => by cases h) xdrAgain_row_tie rfl ⟨rfl, rfl⟩ (by kernel_rfl) rfl xdrAgain_plain (by kernel_rfl)
end Go.Proofs.YtlcjfafmmoncpaaGreatDoor
