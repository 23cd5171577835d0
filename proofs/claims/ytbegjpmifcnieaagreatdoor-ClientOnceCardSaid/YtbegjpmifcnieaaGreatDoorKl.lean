/- What an argument that can be read is: structs of package api, opened to their cells. -/
import Derived.Test.YtbegjpmifcnieaaGreatDoorProg
import Derived.Test.YtbegjpmifcnieaaGreatDoorMc
import Derived.Test.YtbegjpmifcnieaaGreatDoorCp
import Derived.ProofKit
import Derived.OpenShut
import Derived.Test.YtbegjpmifcnieaaGreatDoorRows
import Derived.Test.YtbegjpmifcnieaaGreatDoorXt
import Derived.LaidLaws
import Derived.LaidHandle
import Derived.Stop.Joined
import Derived.Carry
import Derived.ShutString
namespace Go.Proofs.YtbegjpmifcnieaaGreatDoor
open Go.ChangeShapes Go.WideShapes Go.RowKit
set_option linter.unusedVariables false
set_option linter.unusedSimpArgs false
def sysRow (s : SysM) (A : Option Addr) (c : Nat) : Array Value := #[.int .i64 s.stamp, .string s.machine, .int .i64 s.user, .int .i64 s.group, .slice A s.groups.length c]

/-! What an argument that can be read is. -/
theorem has_lt {P : Program} {w : World} {r : Reach} {base : Nat} {a : Addr} {e : TypeId} {n : Nat} (h : World.has P w r base a e n) : a.block < w.heap.size ∧ a.spot = none := by
  obtain ⟨_, h2, row, cells, h3, _⟩ := h
  refine ⟨?_, h2⟩
  rcases Nat.lt_or_ge a.block w.heap.size with h | h
  · exact h
  · unfold World.shape? at h3
    rw [Array.getElem?_eq_none h] at h3
    cases h3
theorem slice_lt {P : Program} {w : World} {r : Reach} {base : Nat} {t e : TypeId} {A : Option Addr} {len cap : Nat} (ht : P.underlying t = some (.slice e)) (h : Cell.okWide P w r base t (.slice A len cap)) : ∀ a, A = some a → a.block < w.heap.size := by
  rintro a rfl
  simp only [Cell.okWide, Cell.ok, ht] at h
  exact (has_lt h.2.2).1
/-- a cell of a struct that came in. -/
theorem row_cellAt {P : Program} {w : World} {r : Reach} {base : Nat} {t : TypeId} {cs : Array Value} {ts : List TypeId} (hts : P.cellTypes P.depth t = some ts) (h : Row.okWide P w r base t cs) (i : Nat) {v : Value} (hv : cs[i]? = some v) (hi : i < ts.length) :
    ∃ u, ts[i]? = some u ∧ Cell.okWide P w r base u v := by
  obtain ⟨ts', h1, _, h3⟩ := h
  obtain rfl := Option.some.inj (hts.symm.trans h1)
  have := h3 i v hv
  rwa [Nat.mod_eq_of_lt hi] at this

theorem one_eq {a b : Value} (h : [a] = [b]) : a = b := by injection h
theorem two_eq {a b c d : Value} (h : [a, b] = [c, d]) : a = c ∧ b = d := by simpa using h
section
variable {H : Type} {enc : TypeId × Value → H} {w : World}
/-- a part of a struct's reading. -/
theorem trod_at {P : Program} {base : Nat} {spare : Nat → Bool} {held : Bool} {t : TypeId} {fs : Array Field} {fuel : Nat} {cs : List Value} {x : DataW H × List MemPlace} (ht : P.underlying t = some (.struct fs)) (h : DataW.trod enc P w base spare held fuel t cs = some x) (j T off k : Nat)
    (hj : (fs[j]?).map (fun f => (f.type, f.offset)) = some (T, off)) (hk : P.cellsOf T = k) : ∃ n y, DataW.trod enc P w base spare held n T ((cs.drop off).take k) = some y := by
  obtain ⟨xs, n, _, _, _, hlen, hf⟩ := DataW.trod_struct ht h
  obtain ⟨f, hf1, hf2⟩ := Option.map_eq_some_iff.1 hj
  simp only [Prod.mk.injEq] at hf2
  obtain ⟨rfl, rfl⟩ := hf2
  have hjs : j < xs.length := by rw [hlen]; exact (Array.getElem?_eq_some_iff.1 hf1).1
  exact ⟨n, xs[j], by rw [← hk, hf j f hf1]; exact List.getElem?_eq_getElem hjs⟩
theorem trod_len {P : Program} {base : Nat} {spare : Nat → Bool} {held : Bool} {t : TypeId} {fs : Array Field} {fuel : Nat} {cs : List Value} {x : DataW H × List MemPlace} (ht : P.underlying t = some (.struct fs)) (h : DataW.trod enc P w base spare held fuel t cs = some x) :
    cs.length = P.cellsOf t := by
  obtain ⟨_, _, _, _, h, _⟩ := DataW.trod_struct ht h
  exact h

/-- a slice of integers, as the walk wants it. -/
theorem ints_of_trod {P : Program} {t e : TypeId} {fuel : Nat} {cs : List Value} {x : DataW H × List MemPlace} (ht : P.underlying t = some (.slice e)) (he : P.underlying e = some (.int .i64)) (hc : P.cellsOf e = 1)
    (h : DataW.trod enc P w 0 (fun _ => true) true fuel t cs = some x) :
    ∃ A l c, cs = [.slice A l c] ∧ ∃ xs : List Int, xs.length = l ∧ ((∀ a, A = some a → a.block < w.heap.size) → IntsAt w A xs) ∧ l ≤ maxLen := by
  rcases open_ints ht he hc h with ⟨rfl, _⟩ | ⟨a, len, cap, zs, rfl, _, hl, hm, hz, _, hcell, _⟩
  · exact ⟨none, 0, 0, rfl, [], rfl, fun _ => .inl rfl, Nat.zero_le _⟩
  · simp only [if_true] at hz
    refine ⟨some a, len, cap, rfl, zs.take len, by simp; omega, fun hlt => ?_, by omega⟩
    by_cases h0 : len = 0
    · left; simp [h0]
    · obtain ⟨b, off, rfl, hcs⟩ := ints_at hcell (by omega)
      refine .inr ⟨b, off, rfl, hlt _ rfl, fun j hj => ?_⟩
      have hj' : j < len := by simp at hj; omega
      rw [hcs j (by omega)]
      simp [List.getD, List.getElem?_take, hj']
end
theorem cellsInt : Tryz.prog.cellsOf 3 = 1 := by kernel_rfl
theorem cellsInts : Tryz.prog.cellsOf 24 = 1 := by kernel_rfl
theorem cellsStr : Tryz.prog.cellsOf 9 = 1 := by kernel_rfl
theorem cellsSys : Tryz.prog.cellsOf 26 = 5 := by kernel_rfl
theorem cellsAuth : Tryz.prog.cellsOf 43 = 2 := by kernel_rfl
theorem cellsMark : Tryz.prog.cellsOf 132 = 8 := by kernel_rfl
theorem cellsCall : Tryz.prog.cellsOf 85 = 10 := by kernel_rfl

section
variable {H : Type} {enc : TypeId × Value → H} {w : World}
theorem open_sys {fuel : Nat} {cs : List Value} {x : DataW H × List MemPlace} (h : DataW.trod enc Tryz.prog w 0 (fun _ => true) true fuel 26 cs = some x) :
    ∃ s A c, cs = (sysRow s A c).toList ∧ ((∀ a, A = some a → a.block < w.heap.size) → IntsAt w A s.groups) := by
  have hl := trod_len Tryz.underlying26 h
  rw [cellsSys] at hl
  match cs, hl with
  | [c0, c1, c2, c3, c4], _ =>
  obtain ⟨_, _, h0⟩ := trod_at Tryz.underlying26 h 0 3 0 1 rfl cellsInt
  obtain ⟨_, _, h1⟩ := trod_at Tryz.underlying26 h 1 9 1 1 rfl cellsStr
  obtain ⟨_, _, h2⟩ := trod_at Tryz.underlying26 h 2 3 2 1 rfl cellsInt
  obtain ⟨_, _, h3⟩ := trod_at Tryz.underlying26 h 3 3 3 1 rfl cellsInt
  obtain ⟨_, _, h4⟩ := trod_at Tryz.underlying26 h 4 24 4 1 rfl cellsInts
  obtain ⟨n0, e0, _⟩ := DataW.trod_int Tryz.underlying3 h0
  obtain ⟨n1, e1, _⟩ := DataW.trod_string Tryz.underlying9 h1
  obtain ⟨n2, e2, _⟩ := DataW.trod_int Tryz.underlying3 h2
  obtain ⟨n3, e3, _⟩ := DataW.trod_int Tryz.underlying3 h3
  obtain ⟨A, l, c, e4, xs, hxl, hI, _⟩ := ints_of_trod Tryz.underlying24 Tryz.underlying3 cellsInt h4
  obtain rfl := one_eq e0
  obtain rfl := one_eq e1
  obtain rfl := one_eq e2
  obtain rfl := one_eq e3
  obtain rfl := one_eq e4
  subst hxl
  exact ⟨⟨n0, n1, n2, n3, xs⟩, A, c, rfl, hI⟩
/-- an api.Auth's two cells. -/
theorem open_auth {fuel : Nat} {cs : List Value} {x : DataW H × List MemPlace} (h : DataW.trod enc Tryz.prog w 0 (fun _ => true) true fuel 43 cs = some x) :
    ∃ a : AuthM, cs = [.int .i64 a.flavor, .string a.body] := by
  have hl := trod_len Tryz.underlying43 h
  rw [cellsAuth] at hl
  match cs, hl with
  | [c0, c1], _ =>
  obtain ⟨_, _, h0⟩ := trod_at Tryz.underlying43 h 0 3 0 1 rfl cellsInt
  obtain ⟨_, _, h1⟩ := trod_at Tryz.underlying43 h 1 9 1 1 rfl cellsStr
  obtain ⟨n0, e0, _⟩ := DataW.trod_int Tryz.underlying3 h0
  obtain ⟨n1, e1, _⟩ := DataW.trod_string Tryz.underlying9 h1
  obtain rfl := one_eq e0
  obtain rfl := one_eq e1
  exact ⟨⟨n0, n1⟩, rfl⟩
theorem open_mark {fuel : Nat} {cs : List Value} {x : DataW H × List MemPlace} (h : DataW.trod enc Tryz.prog w 0 (fun _ => true) true fuel 132 cs = some x) :
    ∃ (m : MarkM) (A : Option Addr) (c : Nat), cs = [.int .i64 m.inst, .int .i64 m.seq, .int .i64 m.water] ++ (sysRow m.sys A c).toList ∧ ((∀ a, A = some a → a.block < w.heap.size) → IntsAt w A m.sys.groups) := by
  have hl := trod_len Tryz.underlying132 h
  rw [cellsMark] at hl
  match cs, hl with
  | [c0, c1, c2, c3, c4, c5, c6, c7], _ =>
  obtain ⟨_, _, h0⟩ := trod_at Tryz.underlying132 h 0 3 0 1 rfl cellsInt
  obtain ⟨_, _, h1⟩ := trod_at Tryz.underlying132 h 1 3 1 1 rfl cellsInt
  obtain ⟨_, _, h2⟩ := trod_at Tryz.underlying132 h 2 3 2 1 rfl cellsInt
  obtain ⟨_, _, h3⟩ := trod_at Tryz.underlying132 h 3 26 3 5 rfl cellsSys
  obtain ⟨n0, e0, _⟩ := DataW.trod_int Tryz.underlying3 h0
  obtain ⟨n1, e1, _⟩ := DataW.trod_int Tryz.underlying3 h1
  obtain ⟨n2, e2, _⟩ := DataW.trod_int Tryz.underlying3 h2
  obtain ⟨s, A, c, e3, hI⟩ := open_sys h3
  obtain rfl := one_eq e0
  obtain rfl := one_eq e1
  obtain rfl := one_eq e2
  refine ⟨⟨n0, n1, n2, s⟩, A, c, ?_, hI⟩
  rw [← show _ = (sysRow s A c).toList from e3]
  rfl
theorem open_call {fuel : Nat} {cs : List Value} {x : DataW H × List MemPlace} (h : DataW.trod enc Tryz.prog w 0 (fun _ => true) true fuel 85 cs = some x) :
    ∃ c : CallM, cs = (callCells c).toList := by
  have hl := trod_len Tryz.underlying85 h
  rw [cellsCall] at hl
  match cs, hl with
  | [c0, c1, c2, c3, c4, c5, c6, c7, c8, c9], _ =>
  obtain ⟨_, _, h0⟩ := trod_at Tryz.underlying85 h 0 3 0 1 rfl cellsInt
  obtain ⟨_, _, h1⟩ := trod_at Tryz.underlying85 h 1 3 1 1 rfl cellsInt
  obtain ⟨_, _, h2⟩ := trod_at Tryz.underlying85 h 2 3 2 1 rfl cellsInt
  obtain ⟨_, _, h3⟩ := trod_at Tryz.underlying85 h 3 3 3 1 rfl cellsInt
  obtain ⟨_, _, h4⟩ := trod_at Tryz.underlying85 h 4 3 4 1 rfl cellsInt
  obtain ⟨_, _, h5⟩ := trod_at Tryz.underlying85 h 5 43 5 2 rfl cellsAuth
  obtain ⟨_, _, h6⟩ := trod_at Tryz.underlying85 h 6 43 7 2 rfl cellsAuth
  obtain ⟨_, _, h7⟩ := trod_at Tryz.underlying85 h 7 9 9 1 rfl cellsStr
  obtain ⟨n0, e0, _⟩ := DataW.trod_int Tryz.underlying3 h0
  obtain ⟨n1, e1, _⟩ := DataW.trod_int Tryz.underlying3 h1
  obtain ⟨n2, e2, _⟩ := DataW.trod_int Tryz.underlying3 h2
  obtain ⟨n3, e3, _⟩ := DataW.trod_int Tryz.underlying3 h3
  obtain ⟨n4, e4, _⟩ := DataW.trod_int Tryz.underlying3 h4
  obtain ⟨a5, e5⟩ := open_auth h5
  obtain ⟨a6, e6⟩ := open_auth h6
  obtain ⟨n7, e7, _⟩ := DataW.trod_string Tryz.underlying9 h7
  obtain rfl := one_eq e0
  obtain rfl := one_eq e1
  obtain rfl := one_eq e2
  obtain rfl := one_eq e3
  obtain rfl := one_eq e4
  obtain rfl := one_eq e7
  obtain ⟨rfl, rfl⟩ := two_eq e5
  obtain ⟨rfl, rfl⟩ := two_eq e6
  exact ⟨⟨n0, n1, n2, n3, n4, a5, a6, n7⟩, rfl⟩
theorem okWide_row {P : Program} {r : Reach} {base : Nat} {t : TypeId} {v : Value} {fs : Array Field} (ht : P.underlying t = some (.struct fs)) (h : Value.okWide P w r base t v) : ∃ cs, v = .agg cs ∧ Row.okWide P w r base t cs := by
  simp only [Value.okWide, ht] at h
  obtain ⟨cs, h1, _, h3⟩ := h
  exact ⟨cs, h1, h3⟩
theorem arr_eq {a b : Array Value} (h : a.toList = b.toList) : a = b := Array.toList_inj.1 h

set_option maxRecDepth 100000 in
theorem sys_arg {base : Nat} {v : Value} {d : DataW H} {p : List MemPlace} (hv : Value.okWide Tryz.prog w .any base 26 v) (h : DataW.Trod enc Tryz.prog w 0 (fun _ => true) true 26 v d p) :
    ∃ s A c, v = .agg (sysRow s A c) ∧ IntsAt w A s.groups ∧ ∀ a, A = some a → a.block < w.heap.size := by
  obtain ⟨cs, rfl, hr⟩ := okWide_row Tryz.underlying26 hv
  obtain ⟨fuel, hf⟩ := h
  obtain ⟨s, A, c, e, hI⟩ := open_sys (cs := cs.toList) (by simpa only [Value.cells] using hf)
  obtain rfl := arr_eq e
  have hk : Tryz.prog.cellTypes Tryz.prog.depth 26 = some [3, 9, 3, 3, 24] := by kernel_rfl
  obtain ⟨u, hu, hc⟩ := row_cellAt hk hr 4 (v := .slice A s.groups.length c) rfl (by decide)
  obtain rfl : 24 = u := Option.some.inj hu
  have hlt := slice_lt Tryz.underlying24 hc
  exact ⟨s, A, c, rfl, hI hlt, hlt⟩
set_option maxRecDepth 100000 in
theorem mark_arg {base : Nat} {v : Value} {d : DataW H} {p : List MemPlace} (hv : Value.okWide Tryz.prog w .any base 132 v) (h : DataW.Trod enc Tryz.prog w 0 (fun _ => true) true 132 v d p) :
    ∃ (m : MarkM) (A : Option Addr) (c : Nat), v = .agg #[.int .i64 m.inst, .int .i64 m.seq, .int .i64 m.water, .int .i64 m.sys.stamp, .string m.sys.machine, .int .i64 m.sys.user, .int .i64 m.sys.group, .slice A m.sys.groups.length c] ∧ IntsAt w A m.sys.groups ∧ ∀ a, A = some a → a.block < w.heap.size := by
  obtain ⟨cs, rfl, hr⟩ := okWide_row Tryz.underlying132 hv
  obtain ⟨fuel, hf⟩ := h
  obtain ⟨m, A, c, e, hI⟩ := open_mark (cs := cs.toList) (by simpa only [Value.cells] using hf)
  obtain rfl : cs = #[.int .i64 m.inst, .int .i64 m.seq, .int .i64 m.water, .int .i64 m.sys.stamp, .string m.sys.machine, .int .i64 m.sys.user, .int .i64 m.sys.group, .slice A m.sys.groups.length c] := arr_eq e
  have hk : Tryz.prog.cellTypes Tryz.prog.depth 132 = some [3, 3, 3, 3, 9, 3, 3, 24] := by kernel_rfl
  obtain ⟨u, hu, hc⟩ := row_cellAt hk hr 7 (v := .slice A m.sys.groups.length c) rfl (by decide)
  obtain rfl : 24 = u := Option.some.inj hu
  have hlt := slice_lt Tryz.underlying24 hc
  exact ⟨m, A, c, rfl, hI hlt, hlt⟩
set_option maxRecDepth 100000 in
theorem call_arg {base : Nat} {v : Value} {d : DataW H} {p : List MemPlace} (hv : Value.okWide Tryz.prog w .any base 85 v) (h : DataW.Trod enc Tryz.prog w 0 (fun _ => true) true 85 v d p) :
    ∃ c : CallM, v = .agg (callCells c) := by
  obtain ⟨cs, rfl, _⟩ := okWide_row Tryz.underlying85 hv
  obtain ⟨fuel, hf⟩ := h
  obtain ⟨c, e⟩ := open_call (cs := cs.toList) (by simpa only [Value.cells] using hf)
  obtain rfl := arr_eq e
  exact ⟨c, rfl⟩
set_option maxRecDepth 100000 in
theorem auth_arg {base : Nat} {v : Value} {d : DataW H} {p : List MemPlace} (hv : Value.okWide Tryz.prog w .any base 43 v) (h : DataW.Trod enc Tryz.prog w 0 (fun _ => true) true 43 v d p) :
    ∃ a : AuthM, v = .agg #[.int .i64 a.flavor, .string a.body] := by
  obtain ⟨cs, rfl, _⟩ := okWide_row Tryz.underlying43 hv
  obtain ⟨fuel, hf⟩ := h
  obtain ⟨a, e⟩ := open_auth (cs := cs.toList) (by simpa only [Value.cells] using hf)
  obtain rfl : cs = #[.int .i64 a.flavor, .string a.body] := arr_eq e
  exact ⟨a, rfl⟩
end
end Go.Proofs.YtbegjpmifcnieaaGreatDoor

/- What the rows' condition gives (errors' cell of the type), and a world that meets it. -/
namespace Go.Proofs.YtbegjpmifcnieaaGreatDoor
open Go.ChangeShapes Go.WideShapes Go.RowKit
set_option linter.unusedVariables false
set_option linter.unusedSimpArgs false

def laidL : List (String × DataW Unit) := [("unicode/utf8.acceptRanges", Rows.laid_unicode_utf8_acceptRanges), ("errors.errorType", Rows.laid_errors_errorType), ("unicode/utf8.first", Rows.laid_unicode_utf8_first)]
theorem own : ownKnob Tryz.prog.godebug = none := by kernel_rfl
theorem gErrN : Tryz.prog.globalNamed "errors.errorType" = some 0 := by kernel_rfl
theorem cutRT : (Tryz.prog.cutTypes.find? (·.1 == "internal/reflectlite.rtype")).map (·.2) = some 394 := by kernel_rfl
theorem oneRow : ((List.range (561 - 100)).filter fun t => Tryz.prog.rowNamed t [101, 114, 114, 111, 114]) = [319] := by kernel_rfl
theorem typesSize : Tryz.prog.types.size = 561 - 100 := by kernel_rfl

/-- what the condition gives a walk: the one cell of errors' type. -/
theorem errT_of_laidG {L : List (String × DataW Unit)} (hf : (L.filter fun x => x.2.handleName?.isSome) = [("errors.errorType", Rows.laid_errors_errorType)]) {W : World} (h : laidMetH Tryz.prog L W) : ErrT W := by
  unfold laidMetH at h
  rw [hf] at h
  have h' := h.2
  obtain ⟨name, u, ty, e1, e2, e3, e4, e5⟩ := h' _ (List.mem_singleton.2 rfl)
  have en : name = [101, 114, 114, 111, 114] := (Option.some.inj e1).symm
  subst en
  obtain rfl := Option.some.inj (cutRT.symm.trans e2)
  have hm : ty ∈ (List.range (561 - 100)).filter fun t => Tryz.prog.rowNamed t [101, 114, 114, 111, 114] := List.mem_filter.2 ⟨List.mem_range.2 (by rw [← typesSize]; exact e3), e4⟩
  rw [oneRow] at hm
  obtain rfl := List.mem_singleton.1 hm
  have hh : typeHandle Tryz.prog 319 = .pointer (some ⟨4, 319, none⟩) := by kernel_rfl
  rw [hh] at e5
  unfold ErrT
  simpa using World.var?_cell gErrN e5 0

theorem errT_of_laid {W : World} (h : laidMetH Tryz.prog laidL W) : ErrT W := errT_of_laidG (by kernel_rfl) h

def setCells (cs : Array Value) : Obj → Obj
  | .cells _ t frozen => .cells cs t frozen
  | o => o
def accCells : Array Value := ([128, 191, 160, 191, 128, 159, 144, 191, 128, 143] ++ List.replicate 22 0 : List Int).map (Value.int .u8) |>.toArray
def firstCells : Array Value := (Pinned.utf8FirstZ.map fun n => Value.int .u8 (n : Nat)).toArray
/-- A world that meets the condition: the settled one, the three variables' cells laid. -/
noncomputable def laidWorld (os : Os) : World :=
  let w0 := World.holding Tryz.prog os ⟨#[], #[], []⟩
  { w0 with heap := ((w0.heap.modify 0 (setCells #[.iface 394 (.agg #[.pointer (some ⟨4, 319, none⟩)])])).modify 2 (setCells firstCells)).modify 3 (setCells accCells) }
theorem laidWorld_met (os : Os) (args : Array Value) : laidMetH Tryz.prog laidL ((laidWorld os).forCall (fun _ _ => 0) ⟨#[], args, []⟩).memory :=
  laidMetH_of_parts3 (fuel := 8) (laidMet_of_run' 8 (by kernel_rfl) (by kernel_rfl)) (by kernel_rfl) (by kernel_rfl)
end Go.Proofs.YtbegjpmifcnieaaGreatDoor

/- From a walk to a law's row: what came in reads as it did, and the law tells true. -/
namespace Go.Proofs.YtbegjpmifcnieaaGreatDoor
open Go.ChangeShapes Go.WideShapes Go.ChangeAt Go.RowKit
set_option linter.unusedVariables false
set_option linter.unusedSimpArgs false

theorem laidOut : laidOutB Tryz.prog = true := by kernel_rfl
theorem Fr.toBelow {w w' : World} (h : Fr (fun _ => False) w w') : Below w.heap.size w w' := ⟨h.os, h.tape, h.output, h.size, fun k hk => h.block k hk (fun h => h)⟩
theorem trodAll_below {H : Type} {enc : TypeId × Value → H} {W W' : World} (hb : Below W.heap.size W W') : ∀ {ts : List TypeId} {vs : List Value} {ds : List (DataW H)} {ps : List MemPlace},
    (∀ t ∈ ts, Tryz.prog.readableRec t = true ∧ t < Tryz.prog.types.size) → DataW.TrodAll enc Tryz.prog W 0 (fun _ => true) true ts vs ds ps → (∀ x ∈ ps, x.block < W.heap.size) →
    DataW.TrodAll enc Tryz.prog W' 0 (fun b => decide (b < W.heap.size)) true ts vs ds ps
  | [], [], [], _, _, h, _ => h
  | t :: ts, v :: vs, d :: ds, _, hr, ⟨p, q, h1, h2, e⟩, hp => ⟨p, q, Below.trod laidOut (hr t List.mem_cons_self).1 (hr t List.mem_cons_self).2 h1 hb (fun x hx => hp x (by rw [e]; exact List.mem_append_left _ hx)),
      trodAll_below hb (fun t ht => hr t (List.mem_cons_of_mem _ ht)) h2 (fun x hx => hp x (by rw [e]; exact List.mem_append_right _ hx)), e⟩
  | [], [], _ :: _, _, _, h, _ => h.elim
  | [], _ :: _, [], _, _, h, _ => h.elim
  | [], _ :: _, _ :: _, _, _, h, _ => h.elim
  | _ :: _, [], [], _, _, h, _ => h.elim
  | _ :: _, [], _ :: _, _, _, h, _ => h.elim
  | _ :: _, _ :: _, [], _, _, h, _ => h.elim

set_option maxRecDepth 100000 in
theorem law_liftedL (L : List (String × DataW Unit)) (hLaid : ∀ W, laidMetH Tryz.prog L W → ErrT W) {f : FuncId} {fn : Func} {s : ChangeSpec} (os : Os) (started : os.Started) (H : Type) (enc : TypeId × Value → H)
    (noInit : Tryz.prog.inits.idxOf? f = none) (hfn : Tryz.prog.funcs[f]? = some fn) (hres : fn.resultTypes = #[4]) (hvars : s.vars = [])
    (hspec : ∀ ds : List (DataW H), ds.length = fn.params.size → s.fn H ds = { results := [.lit (.bool true)], args := ds })
    (hread : ∀ t ∈ fn.params.toList, Tryz.prog.readableRec t = true ∧ t < Tryz.prog.types.size)
    (witness : ∃ (w : World) (tape : Tape) (i : Input), w.os = os ∧ (w.forCall tape i).Shaped Tryz.prog ∧ i.vars = [] ∧ Input.okWide Tryz.prog (w.forCall tape i) .any w.heap.size f i ∧
      ((s.pre enc Tryz.prog fn [] false (w.forCall tape i).memory i.args ∧ laidMetH Tryz.prog L (w.forCall tape i).memory) ∧ sizedMet enc Tryz.prog fn (OpenSpec.ofChange s) false (w.forCall tape i).memory i.args) ∧ ({} : Assume).holds Tryz.prog (lone (Frame.enter Tryz.prog f i.args .normal) [] (w.forCall tape i)))
    (walk : ∀ (W : World) (base : Nat) (args : Array Value) (ds : List (DataW H)) (ps : List MemPlace), (∀ (j : Nat) t v, fn.params[j]? = some t → args[j]? = some v → Value.okWide Tryz.prog W .any base t v) →
      DataW.TrodAll enc Tryz.prog W 0 (fun _ => true) true fn.params.toList args.toList ds ps → ErrT W →
      (DataW.weightsEach Tryz.prog fn.params.toList ds).all (· ≤ reachBytes) = true →
      Calls Tryz.prog f args W fun e W' => e = .returned (.bool true) ∧ Fr (fun _ => False) W W') :
    ReturnsInHanded {} Tryz.checked os f .any (fun w args => (s.pre enc Tryz.prog fn [] false w args ∧ laidMetH Tryz.prog L w) ∧ sizedMet enc Tryz.prog fn (OpenSpec.ofChange s) false w args) (s.post enc Tryz.prog fn false true false false) := by
  refine returnsInHanded_of_change_and (C := Tryz.checked) (X := fun w _ => laidMetH Tryz.prog L w) (fun _ _ _ hh h => h.of_heap hh) own started noInit hfn witness ?_
  intro W base args ds gs before hval hW _ hsz hL _
  have hW' := hW
  obtain ⟨p, q, hA, hV, rfl, _, _⟩ := hW
  have hV' := hV
  rw [hvars] at hV'
  obtain ⟨rfl, rfl⟩ : gs = [] ∧ q = [] := by
    cases gs with
    | nil => exact ⟨rfl, hV'⟩
    | cons g r => exact absurd hV' (by intro h; cases h)
  have hlen : ds.length = fn.params.size := by
    have key : ∀ {ts : List TypeId} {vs : List Value} {ds : List (DataW H)} {ps : List MemPlace}, DataW.TrodAll enc Tryz.prog W 0 (fun _ => true) true ts vs ds ps → ds.length = ts.length := by
      intro ts
      induction ts with
      | nil => intro vs ds ps h; cases vs <;> cases ds <;> first | rfl | exact h.elim
      | cons t ts ih => intro vs ds ps h; cases vs <;> cases ds <;> first | exact h.elim | (obtain ⟨_, _, _, h2, _⟩ := h; simp [ih h2])
    rw [key hA]; simp
  have hwt : (DataW.weightsEach Tryz.prog fn.params.toList ds).all (· ≤ reachBytes) = true := by
    have e : s.plain.varTypes Tryz.checked.prog = [] := by simp [ChangeSpec.plain, hvars, DataSpec.varTypes]
    rw [e, List.append_nil, List.append_nil] at hsz
    exact hsz
  refine (walk W base args ds p hval hA (hLaid _ hL) hwt).mono fun e W' ⟨he, hf⟩ => ?_
  subst he
  have hb := hf.toBelow
  have hlt : ∀ x ∈ p, x.block < W.heap.size := fun x hx => by
    have := hW'.lt x (List.mem_append_left _ hx)
    simpa using this
  have es := hspec (ds ++ []) (by simpa using hlen)
  refine ⟨_, rfl, _, _, _, [], p, [], hW', ?_, ?_, ?_, hb.frame _, fun h => by cases h⟩
  · rw [es, hres]
    exact trodAll_mk1 (shut_bool Tryz.underlying4 true)
  · rw [es]
    rw [List.append_nil]
    exact trodAll_below hb hread hA hlt
  · rw [es, hvars]
    rfl
end Go.Proofs.YtbegjpmifcnieaaGreatDoor
