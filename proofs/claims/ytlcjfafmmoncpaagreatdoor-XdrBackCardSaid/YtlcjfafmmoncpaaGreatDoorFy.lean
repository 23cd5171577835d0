/- XdrBack tells true of every script and every text: what was laid down is read as it was; a unit shorter it is too short, with more behind it it is too long; it is a multiple of four bytes.
   Conditions: none beyond the row's own (the listed variables of Go's library hold what the program's text lays). -/
import Derived.Test.YtlcjfafmmoncpaaGreatDoorKl
import Derived.Test.YtlcjfafmmoncpaaGreatDoorFx
import Derived.Test.YtlcjfafmmoncpaaGreatDoorFw
import Derived.Test.YtlcjfafmmoncpaaGreatDoorCards
import Derived.Test.YtlcjfafmmoncpaaGreatDoorTie
import Derived.SevenTiedAt
import Derived.JoinedOf
namespace Go.Proofs.YtlcjfafmmoncpaaGreatDoor
open Go.ChangeShapes Go.WideShapes Go.RowKit
set_option linter.unusedVariables false
set_option linter.unusedSimpArgs false
open Go.ChangeMaps (open_string shut_string)
set_option linter.unusedVariables false
set_option linter.unusedSimpArgs false

set_option maxRecDepth 100000 in
theorem xdrBack_walk {H : Type} {enc : TypeId × Value → H} (W : World) (base : Nat) (args : Array Value) (ds : List (DataW H)) (ps : List MemPlace) (hval : ∀ (j : Nat) t v, Tryz.f6.params[j]? = some t → args[j]? = some v → Value.okWide Tryz.prog W .any base t v)
    (hA : DataW.TrodAll enc Tryz.prog W 0 (fun _ => true) true Tryz.f6.params.toList args.toList ds ps) (hE : ErrT W) (hsz : (DataW.weightsEach Tryz.prog Tryz.f6.params.toList ds).all (· ≤ reachBytes) = true) :
    Calls Tryz.prog 6 args W fun e W' => e = .returned (.bool true) ∧ Fr (fun _ => False) W W' := by
  rw [Tryz.params6] at hA hval hsz
  obtain ⟨v0, v1, d0, d1, p0, p1, rfl, rfl, rfl, h0, h1⟩ := trodAll_two hA
  obtain ⟨l0, A0, c0, rfl, a0, b0, e0, i0⟩ := ops_arg (hval 0 35 v0 rfl rfl) h0 (fun n hn => reach_ofX hsz 0 rfl rfl hn)
  obtain ⟨x1, rfl, a1⟩ := str_argX (hval 1 9 v1 rfl rfl) h1
  exact XdrBack_any l0 A0 c0 x1 W hE a0 b0 e0 i0 (reach_ofX hsz 1 rfl rfl a1)

set_option maxRecDepth 100000 in
theorem xdrBack_said : Rows.XdrBackSaid :=
  OpenClaim.holds_of_wide 6 Tryz.f6 rfl rfl rfl rfl rfl rfl rfl ⟨rfl, rfl, rfl, rfl, rfl⟩ rfl rfl rfl rfl rfl (by kernel_rfl) Tryz.func6 (by kernel_rfl)
    (of_decide_eq_true (by kernel_rfl)) (by unfold Func.isWrapper; rw [if_neg (of_decide_eq_false (by kernel_rfl))]; exact ⟨rfl, rfl⟩)
    (fun os started H enc _ => law_liftedL laidL (fun _ h => errT_of_laid h) (s := Rows.xdrBackSpec) os started H enc (by kernel_rfl) Tryz.func6 rfl rfl
      (fun ds h => by match ds, h with | [d0, d1], _ => rfl) (by rw [Tryz.params6]; exact fun t ht => of_decide_eq_true (List.all_eq_true.1 (show ([35, 9].all fun t => decide (Tryz.prog.readableRec t = true ∧ t < Tryz.prog.types.size)) = true by kernel_rfl) t ht))
      (ChangeSpec.witness_at (enc := enc) (C := Tryz.checked) (os := os) (X := fun w _ => laidMetH Tryz.prog laidL w) false (laidWorld os) #[.slice none 0 0, .string ByteArray.empty] 8 rfl (by kernel_rfl) (by kernel_rfl) (by kernel_rfl) (by kernel_rfl) (by kernel_rfl) (laidWorld_met os _))
      (fun W base args ds ps hval hA hE hsz => xdrBack_walk W base args ds ps hval hA hE hsz))

theorem xdrBack_plain (f : FuncId) (fn : Func) (hf : Tryz.pinned.checked.prog.funcNamed "callbox/callboxlaw02.XdrBack" = some f) (hfn : Tryz.pinned.checked.prog.funcs[f]? = some fn) :
    true = Tryz.pinned.checked.prog.looks [] ∧ ∀ (j : Nat) t, fn.params[j]? = some t → Tryz.pinned.checked.prog.wantsStandIn t = false := by
  obtain rfl : f = 6 := Option.some.inj ((show Tryz.prog.funcNamed "callbox/callboxlaw02.XdrBack" = some 6 by kernel_rfl).symm.trans hf) |>.symm
  obtain rfl : fn = Tryz.f6 := (Option.some.inj (Tryz.func6.symm.trans hfn)).symm
  refine ⟨by kernel_rfl, fun j t ht => ?_⟩
  have hm : t ∈ Tryz.f6.params.toList := Array.mem_toList_iff.2 (Array.mem_of_getElem? ht)
  exact of_decide_eq_true (List.all_eq_true.1 (show (Tryz.f6.params.toList.all fun t => decide (Tryz.prog.wantsStandIn t = false)) = true by kernel_rfl) t hm)

theorem xdrBack_card : Rows.XdrBackCardSaid :=
  Claim7.holds_tied_plain_at .later [] _ _ _ _ xdrBack_said (fun _ h => by cases h) (by kernel_rfl) (fun _ h => by cases h) xdrBack_row_tie rfl ⟨rfl, rfl⟩ (by kernel_rfl) rfl xdrBack_plain (by kernel_rfl)
end Go.Proofs.YtlcjfafmmoncpaaGreatDoor
