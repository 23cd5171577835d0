/- MessageReads tells true of every text, call, reply and pair of numbers: what is read, and the error, are the answers of the document.
   Conditions: none beyond the row's own (the listed variables of Go's library hold what the program's text lays). -/
import Derived.Test.YtcndifccbkekhaaGreatDoorKl
import Derived.Test.YtcndifccbkekhaaGreatDoorKv
import Derived.Test.YtcndifccbkekhaaGreatDoorM3
import Derived.Test.YtcndifccbkekhaaGreatDoorCards
import Derived.Test.YtcndifccbkekhaaGreatDoorTie
import Derived.SevenTiedAt
import Derived.JoinedOf
namespace Go.Proofs.YtcndifccbkekhaaGreatDoor
open Go.ChangeShapes Go.WideShapes Go.RowKit
set_option linter.unusedVariables false
set_option linter.unusedSimpArgs false
open Go.ChangeMaps (open_string shut_string)
set_option linter.unusedVariables false
set_option linter.unusedSimpArgs false

set_option maxRecDepth 100000 in
theorem messageReads_walk {H : Type} {enc : TypeId × Value → H} (W : World) (base : Nat) (args : Array Value) (ds : List (DataW H)) (ps : List MemPlace) (hval : ∀ (j : Nat) t v, Tryz.f8.params[j]? = some t → args[j]? = some v → Value.okWide Tryz.prog W .any base t v)
    (hA : DataW.TrodAll enc Tryz.prog W 0 (fun _ => true) true Tryz.f8.params.toList args.toList ds ps) (hE : ErrT W) (hsz : (DataW.weightsEach Tryz.prog Tryz.f8.params.toList ds).all (· ≤ reachBytes) = true) :
    Calls Tryz.prog 8 args W fun e W' => e = .returned (.bool true) ∧ Fr (fun _ => False) W W' := by
  rw [Tryz.params8] at hA hval hsz
  obtain ⟨v0, vs0, d0, ds0, p0, q0, hargs, rfl, rfl, h0, r0⟩ := trodAll_cons hA
  obtain ⟨v1, vs1, d1, ds1, p1, q1, rfl, rfl, rfl, h1, r1⟩ := trodAll_cons r0
  obtain ⟨v2, vs2, d2, ds2, p2, q2, rfl, rfl, rfl, h2, r2⟩ := trodAll_cons r1
  obtain ⟨v3, vs3, d3, ds3, p3, q3, rfl, rfl, rfl, h3, r3⟩ := trodAll_cons r2
  obtain ⟨v4, vs4, d4, ds4, p4, q4, rfl, rfl, rfl, h4, r4⟩ := trodAll_cons r3
  obtain ⟨rfl, rfl, rfl⟩ := trodAll_nil r4
  obtain rfl : args = #[v0, v1, v2, v3, v4] := by cases args; simp_all
  obtain ⟨x0, rfl, a0⟩ := str_argW (hval 0 9 v0 rfl rfl) h0
  obtain ⟨x1, rfl, i1, a1, b1, c1⟩ := call_argI (hval 1 25 v1 rfl rfl) h1
  obtain ⟨x2, rfl, i2, a2, b2⟩ := reply_argI (hval 2 27 v2 rfl rfl) h2
  obtain ⟨x3, rfl, rfl, rfl, a3⟩ := open_int Tryz.underlying3 (hval 3 3 v3 rfl rfl) h3
  obtain ⟨x4, rfl, rfl, rfl, a4⟩ := open_int Tryz.underlying3 (hval 4 3 v4 rfl rfl) h4
  exact MessageReads_any x0 x1 x2 x3 x4 W hE (reach_of hsz 0 rfl rfl a0) i1 (reach_of hsz 1 rfl rfl a1) (reach_of hsz 1 rfl rfl b1) (reach_of hsz 1 rfl rfl c1) i2 (reach_of hsz 2 rfl rfl a2) (reach_of hsz 2 rfl rfl b2) (int_wf a3) (int_wf a4)

set_option maxRecDepth 100000 in
theorem messageReads_said : Rows.MessageReadsSaid :=
  OpenClaim.holds_of_wide 8 Tryz.f8 rfl rfl rfl rfl rfl rfl rfl ⟨rfl, rfl, rfl, rfl, rfl⟩ rfl rfl rfl rfl rfl (by kernel_rfl) Tryz.func8 (by kernel_rfl)
    (of_decide_eq_true (by kernel_rfl)) (by unfold Func.isWrapper; rw [if_neg (of_decide_eq_false (by kernel_rfl))]; exact ⟨rfl, rfl⟩)
    (fun os started H enc _ => law_lifted (s := Rows.messageReadsSpec) os started H enc (by kernel_rfl) Tryz.func8 rfl rfl
      (fun ds h => by match ds, h with | [d0, d1, d2, d3, d4], _ => rfl) (by rw [Tryz.params8]; exact fun t ht => of_decide_eq_true (List.all_eq_true.1 (show ([9, 25, 27, 3, 3].all fun t => decide (Tryz.prog.readableRec t = true ∧ t < Tryz.prog.types.size)) = true by kernel_rfl) t ht))
      (ChangeSpec.witness_at (enc := enc) (C := Tryz.checked) (os := os) (X := fun w _ => laidMetH Tryz.prog laidL w) false (laidWorld os) #[.string ByteArray.empty, .agg #[.int .i64 0, .int .i64 0, .int .i64 0, .int .i64 0, .int .i64 0, .int .i64 0, .string ByteArray.empty, .int .i64 0, .string ByteArray.empty, .string ByteArray.empty], .agg #[.int .i64 0, .bool false, .int .i64 0, .string ByteArray.empty, .int .i64 0, .int .i64 0, .int .i64 0, .int .i64 0, .int .i64 0, .string ByteArray.empty], .int .i64 0, .int .i64 0] 8 rfl (by kernel_rfl) (by kernel_rfl) (by kernel_rfl) (by kernel_rfl) (by kernel_rfl) (laidWorld_met os _))
      (fun W base args ds ps hval hA hE hsz => messageReads_walk W base args ds ps hval hA hE hsz))

theorem messageReads_plain (f : FuncId) (fn : Func) (hf : Tryz.pinned.checked.prog.funcNamed "callbox/callboxlaw12.MessageReads" = some f) (hfn : Tryz.pinned.checked.prog.funcs[f]? = some fn) :
    true = Tryz.pinned.checked.prog.looks [] ∧ ∀ (j : Nat) t, fn.params[j]? = some t → Tryz.pinned.checked.prog.wantsStandIn t = false := by
  obtain rfl : f = 8 := Option.some.inj ((show Tryz.prog.funcNamed "callbox/callboxlaw12.MessageReads" = some 8 by kernel_rfl).symm.trans hf) |>.symm
  obtain rfl : fn = Tryz.f8 := (Option.some.inj (Tryz.func8.symm.trans hfn)).symm
  refine ⟨by kernel_rfl, fun j t ht => ?_⟩
  have hm : t ∈ Tryz.f8.params.toList := Array.mem_toList_iff.2 (Array.mem_of_getElem? ht)
  exact of_decide_eq_true (List.all_eq_true.1 (show (Tryz.f8.params.toList.all fun t => decide (Tryz.prog.wantsStandIn t = false)) = true by kernel_rfl) t hm)

theorem messageReads_card : Rows.MessageReadsCardSaid :=
  Claim7.holds_tied_plain_at .later [] _ _ _ _ messageReads_said (fun _ h => by cases h) (by kernel_rfl) (fun _ h => by cases h) messageReads_row_tie rfl ⟨rfl, rfl⟩ (by kernel_rfl) rfl messageReads_plain (by kernel_rfl)
end Go.Proofs.YtcndifccbkekhaaGreatDoor
