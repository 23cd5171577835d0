/- What an argument that can be read is: structs of package api, opened to their cells. -/
import Derived.Test.YtlcjfafmmoncpaaGreatDoorProg
import Derived.Test.YtlcjfafmmoncpaaGreatDoorMc
import Derived.Test.YtlcjfafmmoncpaaGreatDoorCm
import Derived.ProofKit
import Derived.OpenShut
namespace Go.Proofs.YtlcjfafmmoncpaaGreatDoor
open Go.ChangeShapes Go.WideShapes Go.RowKit
set_option linter.unusedVariables false
set_option linter.unusedSimpArgs false
def sysRow (s : SysM) (A : Option Addr) (c : Nat) : Array Value := #[.int .i64 s.stamp, .string s.machine, .int .i64 s.user, .int .i64 s.group, .slice A s.groups.length c]

/-! What an argument that can be read is. -/
theorem has_lt {P : Program} {w : World} {r : Reach} {base : Nat} {a : Addr} {e : TypeId} {n : Nat} (h : World.has P w r base a e n) : a.block < w.heap.size ∧ a.spot = none := by
  obtain ⟨_, h2, row, cells, h3, _⟩ := h
  refine ⟨?_, h2⟩
  rcases Nat.lt_or_ge a.block w.heap.size with h | h
  · exact h
  · unfold World.shape? at h3
    rw [Array.getElem?_eq_none h] at h3
    cases h3
theorem slice_lt {P : Program} {w : World} {r : Reach} {base : Nat} {t e : TypeId} {A : Option Addr} {len cap : Nat} (ht : P.underlying t = some (.slice e)) (h : Cell.okWide P w r base t (.slice A len cap)) : ∀ a, A = some a → a.block < w.heap.size := by
  rintro a rfl
  simp only [Cell.okWide, Cell.ok, ht] at h
  exact (has_lt h.2.2).1
/-- a cell of a struct that came in. -/
theorem row_cellAt {P : Program} {w : World} {r : Reach} {base : Nat} {t : TypeId} {cs : Array Value} {ts : List TypeId} (hts : P.cellTypes P.depth t = some ts) (h : Row.okWide P w r base t cs) (i : Nat) {v : Value} (hv : cs[i]? = some v) (hi : i < ts.length) :
    ∃ u, ts[i]? = some u ∧ Cell.okWide P w r base u v := by
  obtain ⟨ts', h1, _, h3⟩ := h
  obtain rfl := Option.some.inj (hts.symm.trans h1)
  have := h3 i v hv
  rwa [Nat.mod_eq_of_lt hi] at this

theorem one_eq {a b : Value} (h : [a] = [b]) : a = b := by injection h
theorem two_eq {a b c d : Value} (h : [a, b] = [c, d]) : a = c ∧ b = d := by simpa using h
section
variable {H : Type} {enc : TypeId × Value → H} {w : World}
/-- a part of a struct's reading. -/
theorem trod_at {P : Program} {base : Nat} {spare : Nat → Bool} {held : Bool} {t : TypeId} {fs : Array Field} {fuel : Nat} {cs : List Value} {x : DataW H × List MemPlace} (ht : P.underlying t = some (.struct fs)) (h : DataW.trod enc P w base spare held fuel t cs = some x) (j T off k : Nat)
    (hj : (fs[j]?).map (fun f => (f.type, f.offset)) = some (T, off)) (hk : P.cellsOf T = k) : ∃ n y, DataW.trod enc P w base spare held n T ((cs.drop off).take k) = some y := by
  obtain ⟨xs, n, _, _, _, hlen, hf⟩ := DataW.trod_struct ht h
  obtain ⟨f, hf1, hf2⟩ := Option.map_eq_some_iff.1 hj
  simp only [Prod.mk.injEq] at hf2
  obtain ⟨rfl, rfl⟩ := hf2
  have hjs : j < xs.length := by rw [hlen]; exact (Array.getElem?_eq_some_iff.1 hf1).1
  exact ⟨n, xs[j], by rw [← hk, hf j f hf1]; exact List.getElem?_eq_getElem hjs⟩
theorem trod_len {P : Program} {base : Nat} {spare : Nat → Bool} {held : Bool} {t : TypeId} {fs : Array Field} {fuel : Nat} {cs : List Value} {x : DataW H × List MemPlace} (ht : P.underlying t = some (.struct fs)) (h : DataW.trod enc P w base spare held fuel t cs = some x) :
    cs.length = P.cellsOf t := by
  obtain ⟨_, _, _, _, h, _⟩ := DataW.trod_struct ht h
  exact h

/-- a slice of integers, as the walk wants it. -/
theorem ints_of_trod {P : Program} {t e : TypeId} {fuel : Nat} {cs : List Value} {x : DataW H × List MemPlace} (ht : P.underlying t = some (.slice e)) (he : P.underlying e = some (.int .i64)) (hc : P.cellsOf e = 1)
    (h : DataW.trod enc P w 0 (fun _ => true) true fuel t cs = some x) :
    ∃ A l c, cs = [.slice A l c] ∧ ∃ xs : List Int, xs.length = l ∧ ((∀ a, A = some a → a.block < w.heap.size) → IntsAt w A xs) ∧ l ≤ maxLen := by
  rcases open_ints ht he hc h with ⟨rfl, _⟩ | ⟨a, len, cap, zs, rfl, _, hl, hm, hz, _, hcell, _⟩
  · exact ⟨none, 0, 0, rfl, [], rfl, fun _ => .inl rfl, Nat.zero_le _⟩
  · simp only [if_true] at hz
    refine ⟨some a, len, cap, rfl, zs.take len, by simp; omega, fun hlt => ?_, by omega⟩
    by_cases h0 : len = 0
    · left; simp [h0]
    · obtain ⟨b, off, rfl, hcs⟩ := ints_at hcell (by omega)
      refine .inr ⟨b, off, rfl, hlt _ rfl, fun j hj => ?_⟩
      have hj' : j < len := by simp at hj; omega
      rw [hcs j (by omega)]
      simp [List.getD, List.getElem?_take, hj']
end
theorem cellsInt : Tryz.prog.cellsOf 3 = 1 := by kernel_rfl
theorem cellsInts : Tryz.prog.cellsOf 24 = 1 := by kernel_rfl
theorem cellsStr : Tryz.prog.cellsOf 9 = 1 := by kernel_rfl
theorem cellsSys : Tryz.prog.cellsOf 26 = 5 := by kernel_rfl
theorem cellsAuth : Tryz.prog.cellsOf 122 = 2 := by kernel_rfl
theorem cellsMark : Tryz.prog.cellsOf 134 = 8 := by kernel_rfl
theorem cellsCall : Tryz.prog.cellsOf 137 = 10 := by kernel_rfl

section
variable {H : Type} {enc : TypeId × Value → H} {w : World}
theorem open_sys {fuel : Nat} {cs : List Value} {x : DataW H × List MemPlace} (h : DataW.trod enc Tryz.prog w 0 (fun _ => true) true fuel 26 cs = some x) :
    ∃ s A c, cs = (sysRow s A c).toList ∧ ((∀ a, A = some a → a.block < w.heap.size) → IntsAt w A s.groups) := by
  have hl := trod_len Tryz.underlying26 h
  rw [cellsSys] at hl
  match cs, hl with
  | [c0, c1, c2, c3, c4], _ =>
  obtain ⟨_, _, h0⟩ := trod_at Tryz.underlying26 h 0 3 0 1 rfl cellsInt
  obtain ⟨_, _, h1⟩ := trod_at Tryz.underlying26 h 1 9 1 1 rfl cellsStr
  obtain ⟨_, _, h2⟩ := trod_at Tryz.underlying26 h 2 3 2 1 rfl cellsInt
  obtain ⟨_, _, h3⟩ := trod_at Tryz.underlying26 h 3 3 3 1 rfl cellsInt
  obtain ⟨_, _, h4⟩ := trod_at Tryz.underlying26 h 4 24 4 1 rfl cellsInts
  obtain ⟨n0, e0, _⟩ := DataW.trod_int Tryz.underlying3 h0
  obtain ⟨n1, e1, _⟩ := DataW.trod_string Tryz.underlying9 h1
  obtain ⟨n2, e2, _⟩ := DataW.trod_int Tryz.underlying3 h2
  obtain ⟨n3, e3, _⟩ := DataW.trod_int Tryz.underlying3 h3
  obtain ⟨A, l, c, e4, xs, hxl, hI, _⟩ := ints_of_trod Tryz.underlying24 Tryz.underlying3 cellsInt h4
  obtain rfl := one_eq e0
  obtain rfl := one_eq e1
  obtain rfl := one_eq e2
  obtain rfl := one_eq e3
  obtain rfl := one_eq e4
  subst hxl
  exact ⟨⟨n0, n1, n2, n3, xs⟩, A, c, rfl, hI⟩
/-- an api.Auth's two cells. -/
theorem open_auth {fuel : Nat} {cs : List Value} {x : DataW H × List MemPlace} (h : DataW.trod enc Tryz.prog w 0 (fun _ => true) true fuel 122 cs = some x) :
    ∃ a : AuthM, cs = [.int .i64 a.flavor, .string a.body] := by
  have hl := trod_len Tryz.underlying122 h
  rw [cellsAuth] at hl
  match cs, hl with
  | [c0, c1], _ =>
  obtain ⟨_, _, h0⟩ := trod_at Tryz.underlying122 h 0 3 0 1 rfl cellsInt
  obtain ⟨_, _, h1⟩ := trod_at Tryz.underlying122 h 1 9 1 1 rfl cellsStr
  obtain ⟨n0, e0, _⟩ := DataW.trod_int Tryz.underlying3 h0
  obtain ⟨n1, e1, _⟩ := DataW.trod_string Tryz.underlying9 h1
  obtain rfl := one_eq e0
  obtain rfl := one_eq e1
  exact ⟨⟨n0, n1⟩, rfl⟩
theorem open_mark {fuel : Nat} {cs : List Value} {x : DataW H × List MemPlace} (h : DataW.trod enc Tryz.prog w 0 (fun _ => true) true fuel 134 cs = some x) :
    ∃ (m : MarkM) (A : Option Addr) (c : Nat), cs = [.int .i64 m.inst, .int .i64 m.seq, .int .i64 m.water] ++ (sysRow m.sys A c).toList ∧ ((∀ a, A = some a → a.block < w.heap.size) → IntsAt w A m.sys.groups) := by
  have hl := trod_len Tryz.underlying134 h
  rw [cellsMark] at hl
  match cs, hl with
  | [c0, c1, c2, c3, c4, c5, c6, c7], _ =>
  obtain ⟨_, _, h0⟩ := trod_at Tryz.underlying134 h 0 3 0 1 rfl cellsInt
  obtain ⟨_, _, h1⟩ := trod_at Tryz.underlying134 h 1 3 1 1 rfl cellsInt
  obtain ⟨_, _, h2⟩ := trod_at Tryz.underlying134 h 2 3 2 1 rfl cellsInt
  obtain ⟨_, _, h3⟩ := trod_at Tryz.underlying134 h 3 26 3 5 rfl cellsSys
  obtain ⟨n0, e0, _⟩ := DataW.trod_int Tryz.underlying3 h0
  obtain ⟨n1, e1, _⟩ := DataW.trod_int Tryz.underlying3 h1
  obtain ⟨n2, e2, _⟩ := DataW.trod_int Tryz.underlying3 h2
  obtain ⟨s, A, c, e3, hI⟩ := open_sys h3
  obtain rfl := one_eq e0
  obtain rfl := one_eq e1
  obtain rfl := one_eq e2
  refine ⟨⟨n0, n1, n2, s⟩, A, c, ?_, hI⟩
  rw [← show _ = (sysRow s A c).toList from e3]
  rfl
theorem open_call {fuel : Nat} {cs : List Value} {x : DataW H × List MemPlace} (h : DataW.trod enc Tryz.prog w 0 (fun _ => true) true fuel 137 cs = some x) :
    ∃ c : CallM, cs = (callCells c).toList := by
  have hl := trod_len Tryz.underlying137 h
  rw [cellsCall] at hl
  match cs, hl with
  | [c0, c1, c2, c3, c4, c5, c6, c7, c8, c9], _ =>
  obtain ⟨_, _, h0⟩ := trod_at Tryz.underlying137 h 0 3 0 1 rfl cellsInt
  obtain ⟨_, _, h1⟩ := trod_at Tryz.underlying137 h 1 3 1 1 rfl cellsInt
  obtain ⟨_, _, h2⟩ := trod_at Tryz.underlying137 h 2 3 2 1 rfl cellsInt
  obtain ⟨_, _, h3⟩ := trod_at Tryz.underlying137 h 3 3 3 1 rfl cellsInt
  obtain ⟨_, _, h4⟩ := trod_at Tryz.underlying137 h 4 3 4 1 rfl cellsInt
  obtain ⟨_, _, h5⟩ := trod_at Tryz.underlying137 h 5 122 5 2 rfl cellsAuth
  obtain ⟨_, _, h6⟩ := trod_at Tryz.underlying137 h 6 122 7 2 rfl cellsAuth
  obtain ⟨_, _, h7⟩ := trod_at Tryz.underlying137 h 7 9 9 1 rfl cellsStr
  obtain ⟨n0, e0, _⟩ := DataW.trod_int Tryz.underlying3 h0
  obtain ⟨n1, e1, _⟩ := DataW.trod_int Tryz.underlying3 h1
  obtain ⟨n2, e2, _⟩ := DataW.trod_int Tryz.underlying3 h2
  obtain ⟨n3, e3, _⟩ := DataW.trod_int Tryz.underlying3 h3
  obtain ⟨n4, e4, _⟩ := DataW.trod_int Tryz.underlying3 h4
  obtain ⟨a5, e5⟩ := open_auth h5
  obtain ⟨a6, e6⟩ := open_auth h6
  obtain ⟨n7, e7, _⟩ := DataW.trod_string Tryz.underlying9 h7
  obtain rfl := one_eq e0
  obtain rfl := one_eq e1
  obtain rfl := one_eq e2
  obtain rfl := one_eq e3
  obtain rfl := one_eq e4
  obtain rfl := one_eq e7
  obtain ⟨rfl, rfl⟩ := two_eq e5
  obtain ⟨rfl, rfl⟩ := two_eq e6
  exact ⟨⟨n0, n1, n2, n3, n4, a5, a6, n7⟩, rfl⟩
theorem okWide_row {P : Program} {r : Reach} {base : Nat} {t : TypeId} {v : Value} {fs : Array Field} (ht : P.underlying t = some (.struct fs)) (h : Value.okWide P w r base t v) : ∃ cs, v = .agg cs ∧ Row.okWide P w r base t cs := by
  simp only [Value.okWide, ht] at h
  obtain ⟨cs, h1, _, h3⟩ := h
  exact ⟨cs, h1, h3⟩
theorem arr_eq {a b : Array Value} (h : a.toList = b.toList) : a = b := Array.toList_inj.1 h

set_option maxRecDepth 100000 in
theorem sys_arg {base : Nat} {v : Value} {d : DataW H} {p : List MemPlace} (hv : Value.okWide Tryz.prog w .any base 26 v) (h : DataW.Trod enc Tryz.prog w 0 (fun _ => true) true 26 v d p) :
    ∃ s A c, v = .agg (sysRow s A c) ∧ IntsAt w A s.groups ∧ ∀ a, A = some a → a.block < w.heap.size := by
  obtain ⟨cs, rfl, hr⟩ := okWide_row Tryz.underlying26 hv
  obtain ⟨fuel, hf⟩ := h
  obtain ⟨s, A, c, e, hI⟩ := open_sys (cs := cs.toList) (by simpa only [Value.cells] using hf)
  obtain rfl := arr_eq e
  have hk : Tryz.prog.cellTypes Tryz.prog.depth 26 = some [3, 9, 3, 3, 24] := by kernel_rfl
  obtain ⟨u, hu, hc⟩ := row_cellAt hk hr 4 (v := .slice A s.groups.length c) rfl (by decide)
  obtain rfl : 24 = u := Option.some.inj hu
  have hlt := slice_lt Tryz.underlying24 hc
  exact ⟨s, A, c, rfl, hI hlt, hlt⟩
set_option maxRecDepth 100000 in
theorem mark_arg {base : Nat} {v : Value} {d : DataW H} {p : List MemPlace} (hv : Value.okWide Tryz.prog w .any base 134 v) (h : DataW.Trod enc Tryz.prog w 0 (fun _ => true) true 134 v d p) :
    ∃ (m : MarkM) (A : Option Addr) (c : Nat), v = .agg #[.int .i64 m.inst, .int .i64 m.seq, .int .i64 m.water, .int .i64 m.sys.stamp, .string m.sys.machine, .int .i64 m.sys.user, .int .i64 m.sys.group, .slice A m.sys.groups.length c] ∧ IntsAt w A m.sys.groups ∧ ∀ a, A = some a → a.block < w.heap.size := by
  obtain ⟨cs, rfl, hr⟩ := okWide_row Tryz.underlying134 hv
  obtain ⟨fuel, hf⟩ := h
  obtain ⟨m, A, c, e, hI⟩ := open_mark (cs := cs.toList) (by simpa only [Value.cells] using hf)
  obtain rfl : cs = #[.int .i64 m.inst, .int .i64 m.seq, .int .i64 m.water, .int .i64 m.sys.stamp, .string m.sys.machine, .int .i64 m.sys.user, .int .i64 m.sys.group, .slice A m.sys.groups.length c] := arr_eq e
  have hk : Tryz.prog.cellTypes Tryz.prog.depth 134 = some [3, 3, 3, 3, 9, 3, 3, 24] := by kernel_rfl
  obtain ⟨u, hu, hc⟩ := row_cellAt hk hr 7 (v := .slice A m.sys.groups.length c) rfl (by decide)
  obtain rfl : 24 = u := Option.some.inj hu
  have hlt := slice_lt Tryz.underlying24 hc
  exact ⟨m, A, c, rfl, hI hlt, hlt⟩
set_option maxRecDepth 100000 in
theorem call_arg {base : Nat} {v : Value} {d : DataW H} {p : List MemPlace} (hv : Value.okWide Tryz.prog w .any base 137 v) (h : DataW.Trod enc Tryz.prog w 0 (fun _ => true) true 137 v d p) :
    ∃ c : CallM, v = .agg (callCells c) := by
  obtain ⟨cs, rfl, _⟩ := okWide_row Tryz.underlying137 hv
  obtain ⟨fuel, hf⟩ := h
  obtain ⟨c, e⟩ := open_call (cs := cs.toList) (by simpa only [Value.cells] using hf)
  obtain rfl := arr_eq e
  exact ⟨c, rfl⟩
set_option maxRecDepth 100000 in
theorem auth_arg {base : Nat} {v : Value} {d : DataW H} {p : List MemPlace} (hv : Value.okWide Tryz.prog w .any base 122 v) (h : DataW.Trod enc Tryz.prog w 0 (fun _ => true) true 122 v d p) :
    ∃ a : AuthM, v = .agg #[.int .i64 a.flavor, .string a.body] := by
  obtain ⟨cs, rfl, _⟩ := okWide_row Tryz.underlying122 hv
  obtain ⟨fuel, hf⟩ := h
  obtain ⟨a, e⟩ := open_auth (cs := cs.toList) (by simpa only [Value.cells] using hf)
  obtain rfl : cs = #[.int .i64 a.flavor, .string a.body] := arr_eq e
  exact ⟨a, rfl⟩
end
end Go.Proofs.YtlcjfafmmoncpaaGreatDoor
