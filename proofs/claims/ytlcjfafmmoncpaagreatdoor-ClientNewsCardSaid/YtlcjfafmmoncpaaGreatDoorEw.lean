/- ClientNews tells true of every config: client.New and the document's New tell of the same configs that they may be, and what was lent stays as it is; a client's first calls tell what the chapter's example says.
   Conditions: none beyond the row's own (the listed variable of Go's library holds what the program's text lays). -/
import Derived.Test.YtlcjfafmmoncpaaGreatDoorKl
import Derived.Test.YtlcjfafmmoncpaaGreatDoorEv
import Derived.Test.YtlcjfafmmoncpaaGreatDoorCards
import Derived.Test.YtlcjfafmmoncpaaGreatDoorTie
import Derived.SevenTiedAt
import Derived.JoinedOf
namespace Go.Proofs.YtlcjfafmmoncpaaGreatDoor
open Go.ChangeShapes Go.WideShapes Go.RowKit
set_option linter.unusedVariables false
set_option linter.unusedSimpArgs false
open Go.ChangeMaps (open_string shut_string)
set_option linter.unusedVariables false
set_option linter.unusedSimpArgs false

def laidE : List (String × DataW Unit) := [("errors.errorType", Rows.laid_errors_errorType)]
theorem errT_of_laidE {W : World} (h : laidMetH Tryz.prog laidE W) : ErrT W := errT_of_laidG (by kernel_rfl) h
theorem laidWorld_metE (os : Os) (args : Array Value) : laidMetH Tryz.prog laidE ((laidWorld os).forCall (fun _ _ => 0) ⟨#[], args, []⟩).memory :=
  laidMetH_of_parts3 (fuel := 8) (laidMet_of_run' 8 (by kernel_rfl) (by kernel_rfl)) (by kernel_rfl) (by kernel_rfl)

section
variable {H : Type} {enc : TypeId × Value → H} {w : World}
theorem cellsPace : Tryz.prog.cellsOf 23 = 3 := by kernel_rfl
theorem cellsConfig : Tryz.prog.cellsOf 28 = 12 := by kernel_rfl
theorem open_pace {fuel : Nat} {cs : List Value} {x : DataW H × List MemPlace} (h : DataW.trod enc Tryz.prog w 0 (fun _ => true) true fuel 23 cs = some x) :
    ∃ p : PaceM, cs = [.int .i64 p.base, .int .i64 p.cap, .int .i64 p.tries] := by
  have hl := trod_len Tryz.underlying23 h
  rw [cellsPace] at hl
  match cs, hl with
  | [c0, c1, c2], _ =>
  obtain ⟨_, _, h0⟩ := trod_at Tryz.underlying23 h 0 3 0 1 rfl cellsInt
  obtain ⟨_, _, h1⟩ := trod_at Tryz.underlying23 h 1 3 1 1 rfl cellsInt
  obtain ⟨_, _, h2⟩ := trod_at Tryz.underlying23 h 2 3 2 1 rfl cellsInt
  obtain ⟨n0, e0, _⟩ := DataW.trod_int Tryz.underlying3 h0
  obtain ⟨n1, e1, _⟩ := DataW.trod_int Tryz.underlying3 h1
  obtain ⟨n2, e2, _⟩ := DataW.trod_int Tryz.underlying3 h2
  obtain rfl := one_eq e0
  obtain rfl := one_eq e1
  obtain rfl := one_eq e2
  exact ⟨⟨n0, n1, n2⟩, rfl⟩
theorem open_config {fuel : Nat} {cs : List Value} {x : DataW H × List MemPlace} (h : DataW.trod enc Tryz.prog w 0 (fun _ => true) true fuel 28 cs = some x) :
    ∃ (c : CfgM) (A : Option Addr) (n : Nat), cs = (cfgCells c A n).toList ∧ ((∀ a, A = some a → a.block < w.heap.size) → IntsAt w A c.sys.groups) := by
  have hl := trod_len Tryz.underlying28 h
  rw [cellsConfig] at hl
  match cs, hl with
  | [c0, c1, c2, c3, c4, c5, c6, c7, c8, c9, c10, c11], _ =>
  obtain ⟨_, _, h0⟩ := trod_at Tryz.underlying28 h 0 3 0 1 rfl cellsInt
  obtain ⟨_, _, h1⟩ := trod_at Tryz.underlying28 h 1 3 1 1 rfl cellsInt
  obtain ⟨_, _, h2⟩ := trod_at Tryz.underlying28 h 2 3 2 1 rfl cellsInt
  obtain ⟨_, _, h3⟩ := trod_at Tryz.underlying28 h 3 3 3 1 rfl cellsInt
  obtain ⟨_, _, h4⟩ := trod_at Tryz.underlying28 h 4 23 4 3 rfl cellsPace
  obtain ⟨_, _, h5⟩ := trod_at Tryz.underlying28 h 5 26 7 5 rfl cellsSys
  obtain ⟨n0, e0, _⟩ := DataW.trod_int Tryz.underlying3 h0
  obtain ⟨n1, e1, _⟩ := DataW.trod_int Tryz.underlying3 h1
  obtain ⟨n2, e2, _⟩ := DataW.trod_int Tryz.underlying3 h2
  obtain ⟨n3, e3, _⟩ := DataW.trod_int Tryz.underlying3 h3
  obtain ⟨p, e4⟩ := open_pace h4
  obtain ⟨s, A, c, e5, hI⟩ := open_sys h5
  obtain rfl := one_eq e0
  obtain rfl := one_eq e1
  obtain rfl := one_eq e2
  obtain rfl := one_eq e3
  refine ⟨⟨n0, n1, n2, n3, p, s⟩, A, c, ?_, hI⟩
  have e4 : [c4, c5, c6] = [.int .i64 p.base, .int .i64 p.cap, .int .i64 p.tries] := e4
  have e5 : [c7, c8, c9, c10, c11] = (sysRow s A c).toList := e5
  show [_, _, _, _] ++ [c4, c5, c6] ++ [c7, c8, c9, c10, c11] = _
  rw [e4, e5]
  rfl
end

set_option maxRecDepth 100000 in
theorem config_arg {H : Type} {enc : TypeId × Value → H} {w : World} {base : Nat} {v : Value} {d : DataW H} {p : List MemPlace} (hv : Value.okWide Tryz.prog w .any base 28 v) (h : DataW.Trod enc Tryz.prog w 0 (fun _ => true) true 28 v d p) :
    ∃ (c : CfgM) (A : Option Addr) (n : Nat), v = .agg (cfgCells c A n) ∧ IntsAt w A c.sys.groups ∧ ∀ a, A = some a → a.block < w.heap.size := by
  obtain ⟨cs, rfl, hr⟩ := okWide_row Tryz.underlying28 hv
  obtain ⟨fuel, hf⟩ := h
  obtain ⟨c, A, n, e, hI⟩ := open_config (cs := cs.toList) (by simpa only [Value.cells] using hf)
  obtain rfl : cs = cfgCells c A n := arr_eq e
  have hk : Tryz.prog.cellTypes Tryz.prog.depth 28 = some [3, 3, 3, 3, 3, 3, 3, 3, 9, 3, 3, 24] := by kernel_rfl
  obtain ⟨u, hu, hc⟩ := row_cellAt hk hr 11 (v := .slice A c.sys.groups.length n) rfl (by decide)
  obtain rfl : 24 = u := Option.some.inj hu
  have hlt := slice_lt Tryz.underlying24 hc
  exact ⟨c, A, n, rfl, hI hlt, hlt⟩

set_option maxRecDepth 100000 in
theorem clientNews_walk {H : Type} {enc : TypeId × Value → H} (W : World) (base : Nat) (args : Array Value) (ds : List (DataW H)) (ps : List MemPlace) (hval : ∀ (j : Nat) t v, Tryz.f3.params[j]? = some t → args[j]? = some v → Value.okWide Tryz.prog W .any base t v)
    (hA : DataW.TrodAll enc Tryz.prog W 0 (fun _ => true) true Tryz.f3.params.toList args.toList ds ps) (hE : ErrT W) :
    Calls Tryz.prog 3 args W fun e W' => e = .returned (.bool true) ∧ Fr (fun _ => False) W W' := by
  rw [Tryz.params3] at hA hval
  obtain ⟨v0, d0, rfl, rfl, h0⟩ := trodAll_one hA
  obtain ⟨c, A, n, rfl, hI, hl⟩ := config_arg (hval 0 28 v0 rfl rfl) h0
  exact ClientNews_any c A n W hI hE hl

set_option maxRecDepth 100000 in
theorem clientNews_said : Rows.ClientNewsSaid :=
  OpenClaim.holds_of_wide 3 Tryz.f3 rfl rfl rfl rfl rfl rfl rfl ⟨rfl, rfl, rfl, rfl, rfl⟩ rfl rfl rfl rfl rfl (by kernel_rfl) Tryz.func3 (by kernel_rfl)
    (of_decide_eq_true (by kernel_rfl)) (by unfold Func.isWrapper; rw [if_neg (of_decide_eq_false (by kernel_rfl))]; exact ⟨rfl, rfl⟩)
    (fun os started H enc _ => law_liftedL laidE (fun _ h => errT_of_laidE h) (s := Rows.clientNewsSpec) os started H enc (by kernel_rfl) Tryz.func3 rfl rfl
      (fun ds h => by match ds, h with | [d0], _ => rfl) (by rw [Tryz.params3]; exact fun t ht => of_decide_eq_true (List.all_eq_true.1 (show ([28].all fun t => decide (Tryz.prog.readableRec t = true ∧ t < Tryz.prog.types.size)) = true by kernel_rfl) t ht))
      (ChangeSpec.witness_at (enc := enc) (C := Tryz.checked) (os := os) (X := fun w _ => laidMetH Tryz.prog laidE w) false (laidWorld os) #[.agg #[.int .i64 0, .int .i64 0, .int .i64 0, .int .i64 0, .int .i64 0, .int .i64 0, .int .i64 0, .int .i64 0, .string ByteArray.empty, .int .i64 0, .int .i64 0, .slice none 0 0]] 8 rfl (by kernel_rfl) (by kernel_rfl) (by kernel_rfl) (by kernel_rfl) (by kernel_rfl) (laidWorld_metE os _))
      (fun W base args ds ps hval hA hE _ => clientNews_walk W base args ds ps hval hA hE))

theorem clientNews_plain (f : FuncId) (fn : Func) (hf : Tryz.pinned.checked.prog.funcNamed "callbox/callboxlaw17.ClientNews" = some f) (hfn : Tryz.pinned.checked.prog.funcs[f]? = some fn) :
    true = Tryz.pinned.checked.prog.looks [] ∧ ∀ (j : Nat) t, fn.params[j]? = some t → Tryz.pinned.checked.prog.wantsStandIn t = false := by
  obtain rfl : f = 3 := Option.some.inj ((show Tryz.prog.funcNamed "callbox/callboxlaw17.ClientNews" = some 3 by kernel_rfl).symm.trans hf) |>.symm
  obtain rfl : fn = Tryz.f3 := (Option.some.inj (Tryz.func3.symm.trans hfn)).symm
  refine ⟨by kernel_rfl, fun j t ht => ?_⟩
  have hm : t ∈ Tryz.f3.params.toList := Array.mem_toList_iff.2 (Array.mem_of_getElem? ht)
  exact of_decide_eq_true (List.all_eq_true.1 (show (Tryz.f3.params.toList.all fun t => decide (Tryz.prog.wantsStandIn t = false)) = true by kernel_rfl) t hm)

theorem clientNews_card : Rows.ClientNewsCardSaid :=
  Claim7.holds_tied_plain_at .later [] _ _ _ _ clientNews_said (fun _ h => by cases h) (by kernel_rfl) (fun _ h => by cases h) clientNews_row_tie rfl ⟨rfl, rfl⟩ (by kernel_rfl) rfl clientNews_plain (by kernel_rfl)
end Go.Proofs.YtlcjfafmmoncpaaGreatDoor
