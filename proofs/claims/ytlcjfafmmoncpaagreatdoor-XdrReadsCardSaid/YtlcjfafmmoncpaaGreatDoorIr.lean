/- XdrReads tells true of two Readers of any texts and every script: each answer, what is left and what is wrong, behind each call, is the document's.
   Conditions: none beyond the row's own (the listed variables of Go's library hold what the program's text lays). -/
import Derived.Test.YtlcjfafmmoncpaaGreatDoorKl
import Derived.Test.YtlcjfafmmoncpaaGreatDoorFx
import Derived.Test.YtlcjfafmmoncpaaGreatDoorIq
import Derived.Test.YtlcjfafmmoncpaaGreatDoorCards
import Derived.Test.YtlcjfafmmoncpaaGreatDoorTie
import Derived.SevenTiedAt
import Derived.JoinedOf
namespace Go.Proofs.YtlcjfafmmoncpaaGreatDoor
open Go.ChangeShapes Go.WideShapes Go.RowKit
set_option linter.unusedVariables false
set_option linter.unusedSimpArgs false
open Go.ChangeMaps (open_string shut_string)
set_option linter.unusedVariables false
set_option linter.unusedSimpArgs false

set_option maxRecDepth 100000 in
theorem xdrReads_walk {H : Type} {enc : TypeId × Value → H} (W : World) (base : Nat) (args : Array Value) (ds : List (DataW H)) (ps : List MemPlace) (hval : ∀ (j : Nat) t v, Tryz.f5.params[j]? = some t → args[j]? = some v → Value.okWide Tryz.prog W .any base t v)
    (hA : DataW.TrodAll enc Tryz.prog W 0 (fun _ => true) true Tryz.f5.params.toList args.toList ds ps) (hE : ErrT W) (hsz : (DataW.weightsEach Tryz.prog Tryz.f5.params.toList ds).all (· ≤ reachBytes) = true) :
    Calls Tryz.prog 5 args W fun e W' => e = .returned (.bool true) ∧ Fr (fun _ => False) W W' := by
  rw [Tryz.params5] at hA hval hsz
  obtain ⟨v0, v1, v2, d0, d1, d2, p0, p1, p2, rfl, rfl, rfl, h0, h1, h2⟩ := trodAll_three hA
  obtain ⟨x0, rfl, a0⟩ := str_argX (hval 0 9 v0 rfl rfl) h0
  obtain ⟨x1, rfl, a1⟩ := str_argX (hval 1 9 v1 rfl rfl) h1
  obtain ⟨l2, A2, c2, rfl, a2, b2, e2, i2⟩ := ops_arg (hval 2 35 v2 rfl rfl) h2 (fun n hn => reach_ofX hsz 2 rfl rfl hn)
  exact XdrReads_any x0 x1 l2 A2 c2 W hE (reach_ofX hsz 0 rfl rfl a0) (reach_ofX hsz 1 rfl rfl a1) a2 b2 e2 i2

set_option maxRecDepth 100000 in
theorem xdrReads_said : Rows.XdrReadsSaid :=
  OpenClaim.holds_of_wide 5 Tryz.f5 rfl rfl rfl rfl rfl rfl rfl ⟨rfl, rfl, rfl, rfl, rfl⟩ rfl rfl rfl rfl rfl (by kernel_rfl) Tryz.func5 (by kernel_rfl)
    (of_decide_eq_true (by kernel_rfl)) (by unfold Func.isWrapper; rw [if_neg (of_decide_eq_false (by kernel_rfl))]; exact ⟨rfl, rfl⟩)
    (fun os started H enc _ => law_liftedL laidL (fun _ h => errT_of_laid h) (s := Rows.xdrReadsSpec) os started H enc (by kernel_rfl) Tryz.func5 rfl rfl
      (fun ds h => by match ds, h with | [d0, d1, d2], _ => rfl) (by rw [Tryz.params5]; exact fun t ht => of_decide_eq_true (List.all_eq_true.1 (show ([9, 9, 35].all fun t => decide (Tryz.prog.readableRec t = true ∧ t < Tryz.prog.types.size)) = true by kernel_rfl) t ht))
      (ChangeSpec.witness_at (enc := enc) (C := Tryz.checked) (os := os) (X := fun w _ => laidMetH Tryz.prog laidL w) false (laidWorld os) #[.string ByteArray.empty, .string ByteArray.empty, .slice none 0 0] 8 rfl (by kernel_rfl) (by kernel_rfl) (by kernel_rfl) (by kernel_rfl) (by kernel_rfl) (laidWorld_met os _))
      (fun W base args ds ps hval hA hE hsz => xdrReads_walk W base args ds ps hval hA hE hsz))

theorem xdrReads_plain (f : FuncId) (fn : Func) (hf : Tryz.pinned.checked.prog.funcNamed "callbox/callboxlaw02.XdrReads" = some f) (hfn : Tryz.pinned.checked.prog.funcs[f]? = some fn) :
    true = Tryz.pinned.checked.prog.looks [] ∧ ∀ (j : Nat) t, fn.params[j]? = some t → Tryz.pinned.checked.prog.wantsStandIn t = false := by
  obtain rfl : f = 5 := Option.some.inj ((show Tryz.prog.funcNamed "callbox/callboxlaw02.XdrReads" = some 5 by kernel_rfl).symm.trans hf) |>.symm
  obtain rfl : fn = Tryz.f5 := (Option.some.inj (Tryz.func5.symm.trans hfn)).symm
  refine ⟨by kernel_rfl, fun j t ht => ?_⟩
  have hm : t ∈ Tryz.f5.params.toList := Array.mem_toList_iff.2 (Array.mem_of_getElem? ht)
  exact of_decide_eq_true (List.all_eq_true.1 (show (Tryz.f5.params.toList.all fun t => decide (Tryz.prog.wantsStandIn t = false)) = true by kernel_rfl) t hm)

theorem xdrReads_card : Rows.XdrReadsCardSaid :=
  Claim7.holds_tied_plain_at .later [] _ _ _ _ xdrReads_said (fun _ h => by cases h) (by kernel_rfl) (fun _ h => by cases h) xdrReads_row_tie rfl ⟨rfl, rfl⟩ (by kernel_rfl) rfl xdrReads_plain (by kernel_rfl)
end Go.Proofs.YtlcjfafmmoncpaaGreatDoor
