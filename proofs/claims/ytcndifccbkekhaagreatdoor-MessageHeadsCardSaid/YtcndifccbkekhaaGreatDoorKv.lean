/- What an argument that can be read is, and how long its texts may be: calls, replies, texts, numbers. -/
import Derived.Test.YtcndifccbkekhaaGreatDoorKo
import Derived.Test.YtcndifccbkekhaaGreatDoorNa
import Derived.SizedLaws
import Derived.Carry
import Derived.ChangeMaps5
import Derived.Test.YtcndifccbkekhaaGreatDoorL2
namespace Go.Proofs.YtcndifccbkekhaaGreatDoor
open Go.ChangeShapes Go.WideShapes Go.RowKit
set_option linter.unusedVariables false
set_option linter.unusedSimpArgs false

section
variable {H : Type} {enc : TypeId × Value → H} {w : World}
theorem trod_atW {P : Program} {base : Nat} {spare : Nat → Bool} {held : Bool} {t : TypeId} {fs : Array Field} {fuel : Nat} {cs : List Value} {x : DataW H × List MemPlace} (ht : P.underlying t = some (.struct fs)) (h : DataW.trod enc P w base spare held fuel t cs = some x) (j T off k : Nat)
    (hj : (fs[j]?).map (fun f => (f.type, f.offset)) = some (T, off)) (hk : P.cellsOf T = k) : ∃ n y, DataW.trod enc P w base spare held n T ((cs.drop off).take k) = some y ∧ ∀ m ∈ y.1.weights P T, m ∈ x.1.weights P t := by
  obtain ⟨xs, n, _, rfl, _, hlen, hf⟩ := DataW.trod_struct ht h
  obtain ⟨f, hf1, hf2⟩ := Option.map_eq_some_iff.1 hj
  simp only [Prod.mk.injEq] at hf2
  obtain ⟨rfl, rfl⟩ := hf2
  have hjs : j < xs.length := by rw [hlen]; exact (Array.getElem?_eq_some_iff.1 hf1).1
  refine ⟨n, xs[j], by rw [← hk, hf j f hf1]; exact List.getElem?_eq_getElem hjs, fun m hm => ?_⟩
  have e : (DataW.agg (xs.map (·.1))).weights P t = DataW.weightsEach P (fs.toList.map (·.type)) (xs.map (·.1)) := by
    simp only [DataW.weights, ht]
  show m ∈ (DataW.agg (xs.map (·.1))).weights P t
  rw [e]
  refine DataW.weights_mem_each (j := j) (t := f.type) (d := xs[j].1) ?_ ?_ m hm
  · rw [List.getElem?_map, Array.getElem?_toList, hf1]; rfl
  · rw [List.getElem?_map, List.getElem?_eq_getElem hjs]; rfl
theorem open_strW {fuel : Nat} {cs : List Value} {x : DataW H × List MemPlace} (h : DataW.trod enc Tryz.prog w 0 (fun _ => true) true fuel 9 cs = some x) :
    ∃ s : ByteArray, cs = [.string s] ∧ s.size ∈ x.1.weights Tryz.prog 9 := by
  obtain ⟨s, e, hx, _⟩ := DataW.trod_string Tryz.underlying9 h
  subst hx
  exact ⟨s, e, by simp [DataW.weights]⟩
theorem open_authW {fuel : Nat} {cs : List Value} {x : DataW H × List MemPlace} (h : DataW.trod enc Tryz.prog w 0 (fun _ => true) true fuel 23 cs = some x) :
    ∃ a : AuthM, cs = [.int .i64 a.flavor, .string a.body] ∧ a.body.size ∈ x.1.weights Tryz.prog 23 := by
  have hl := trod_len Tryz.underlying23 h
  rw [cellsAuth] at hl
  match cs, hl with
  | [c0, c1], _ =>
  obtain ⟨_, _, h0, _⟩ := trod_atW Tryz.underlying23 h 0 3 0 1 rfl cellsInt
  obtain ⟨_, _, h1, w1⟩ := trod_atW Tryz.underlying23 h 1 9 1 1 rfl cellsStr
  obtain ⟨n0, e0, _⟩ := DataW.trod_int Tryz.underlying3 h0
  obtain ⟨n1, e1, m1⟩ := open_strW h1
  obtain rfl := one_eq e0
  obtain rfl := one_eq e1
  exact ⟨⟨n0, n1⟩, rfl, w1 _ m1⟩
theorem open_callW {fuel : Nat} {cs : List Value} {x : DataW H × List MemPlace} (h : DataW.trod enc Tryz.prog w 0 (fun _ => true) true fuel 25 cs = some x) :
    ∃ c : CallM, cs = (callCells c).toList ∧ c.cred.body.size ∈ x.1.weights Tryz.prog 25 ∧ c.verf.body.size ∈ x.1.weights Tryz.prog 25 ∧ c.args.size ∈ x.1.weights Tryz.prog 25 := by
  have hl := trod_len Tryz.underlying25 h
  rw [cellsCall] at hl
  match cs, hl with
  | [c0, c1, c2, c3, c4, c5, c6, c7, c8, c9], _ =>
  obtain ⟨_, _, h0, _⟩ := trod_atW Tryz.underlying25 h 0 3 0 1 rfl cellsInt
  obtain ⟨_, _, h1, _⟩ := trod_atW Tryz.underlying25 h 1 3 1 1 rfl cellsInt
  obtain ⟨_, _, h2, _⟩ := trod_atW Tryz.underlying25 h 2 3 2 1 rfl cellsInt
  obtain ⟨_, _, h3, _⟩ := trod_atW Tryz.underlying25 h 3 3 3 1 rfl cellsInt
  obtain ⟨_, _, h4, _⟩ := trod_atW Tryz.underlying25 h 4 3 4 1 rfl cellsInt
  obtain ⟨_, _, h5, w5⟩ := trod_atW Tryz.underlying25 h 5 23 5 2 rfl cellsAuth
  obtain ⟨_, _, h6, w6⟩ := trod_atW Tryz.underlying25 h 6 23 7 2 rfl cellsAuth
  obtain ⟨_, _, h7, w7⟩ := trod_atW Tryz.underlying25 h 7 9 9 1 rfl cellsStr
  obtain ⟨n0, e0, _⟩ := DataW.trod_int Tryz.underlying3 h0
  obtain ⟨n1, e1, _⟩ := DataW.trod_int Tryz.underlying3 h1
  obtain ⟨n2, e2, _⟩ := DataW.trod_int Tryz.underlying3 h2
  obtain ⟨n3, e3, _⟩ := DataW.trod_int Tryz.underlying3 h3
  obtain ⟨n4, e4, _⟩ := DataW.trod_int Tryz.underlying3 h4
  obtain ⟨a5, e5, m5⟩ := open_authW h5
  obtain ⟨a6, e6, m6⟩ := open_authW h6
  obtain ⟨n7, e7, m7⟩ := open_strW h7
  obtain rfl := one_eq e0
  obtain rfl := one_eq e1
  obtain rfl := one_eq e2
  obtain rfl := one_eq e3
  obtain rfl := one_eq e4
  obtain rfl := one_eq e7
  obtain ⟨rfl, rfl⟩ := two_eq e5
  obtain ⟨rfl, rfl⟩ := two_eq e6
  exact ⟨⟨n0, n1, n2, n3, n4, a5, a6, n7⟩, rfl, w5 _ m5, w6 _ m6, w7 _ m7⟩
theorem cellsReply : Tryz.prog.cellsOf 27 = 10 := by kernel_rfl
theorem cellsBool : Tryz.prog.cellsOf 4 = 1 := by kernel_rfl
theorem open_replyW {fuel : Nat} {cs : List Value} {x : DataW H × List MemPlace} (h : DataW.trod enc Tryz.prog w 0 (fun _ => true) true fuel 27 cs = some x) :
    ∃ r : ReplyM, cs = (replyCells r).toList ∧ r.verf.body.size ∈ x.1.weights Tryz.prog 27 ∧ r.results.size ∈ x.1.weights Tryz.prog 27 := by
  have hl := trod_len Tryz.underlying27 h
  rw [cellsReply] at hl
  match cs, hl with
  | [c0, c1, c2, c3, c4, c5, c6, c7, c8, c9], _ =>
  obtain ⟨_, _, h0, _⟩ := trod_atW Tryz.underlying27 h 0 3 0 1 rfl cellsInt
  obtain ⟨_, _, h1, _⟩ := trod_atW Tryz.underlying27 h 1 4 1 1 rfl cellsBool
  obtain ⟨_, _, h2, w2⟩ := trod_atW Tryz.underlying27 h 2 23 2 2 rfl cellsAuth
  obtain ⟨_, _, h3, _⟩ := trod_atW Tryz.underlying27 h 3 3 4 1 rfl cellsInt
  obtain ⟨_, _, h4, _⟩ := trod_atW Tryz.underlying27 h 4 3 5 1 rfl cellsInt
  obtain ⟨_, _, h5, _⟩ := trod_atW Tryz.underlying27 h 5 3 6 1 rfl cellsInt
  obtain ⟨_, _, h6, _⟩ := trod_atW Tryz.underlying27 h 6 3 7 1 rfl cellsInt
  obtain ⟨_, _, h7, _⟩ := trod_atW Tryz.underlying27 h 7 3 8 1 rfl cellsInt
  obtain ⟨_, _, h8, w8⟩ := trod_atW Tryz.underlying27 h 8 9 9 1 rfl cellsStr
  obtain ⟨n0, e0, _⟩ := DataW.trod_int Tryz.underlying3 h0
  obtain ⟨n1, e1, _⟩ := DataW.trod_bool Tryz.underlying4 h1
  obtain ⟨a2, e2, m2⟩ := open_authW h2
  obtain ⟨n3, e3, _⟩ := DataW.trod_int Tryz.underlying3 h3
  obtain ⟨n4, e4, _⟩ := DataW.trod_int Tryz.underlying3 h4
  obtain ⟨n5, e5, _⟩ := DataW.trod_int Tryz.underlying3 h5
  obtain ⟨n6, e6, _⟩ := DataW.trod_int Tryz.underlying3 h6
  obtain ⟨n7, e7, _⟩ := DataW.trod_int Tryz.underlying3 h7
  obtain ⟨n8, e8, m8⟩ := open_strW h8
  obtain rfl := one_eq e0
  obtain rfl := one_eq e1
  obtain ⟨rfl, rfl⟩ := two_eq e2
  obtain rfl := one_eq e3
  obtain rfl := one_eq e4
  obtain rfl := one_eq e5
  obtain rfl := one_eq e6
  obtain rfl := one_eq e7
  obtain rfl := one_eq e8
  exact ⟨⟨n0, n1, a2, n3, n4, n5, n6, n7, n8⟩, rfl, w2 _ m2, w8 _ m8⟩

set_option maxRecDepth 100000 in
theorem call_argW {base : Nat} {v : Value} {d : DataW H} {p : List MemPlace} (hv : Value.okWide Tryz.prog w .any base 25 v) (h : DataW.Trod enc Tryz.prog w 0 (fun _ => true) true 25 v d p) :
    ∃ c : CallM, v = .agg (callCells c) ∧ c.cred.body.size ∈ d.weights Tryz.prog 25 ∧ c.verf.body.size ∈ d.weights Tryz.prog 25 ∧ c.args.size ∈ d.weights Tryz.prog 25 := by
  obtain ⟨cs, rfl, _⟩ := okWide_row Tryz.underlying25 hv
  obtain ⟨fuel, hf⟩ := h
  obtain ⟨c, e, m⟩ := open_callW (cs := cs.toList) (by simpa only [Value.cells] using hf)
  obtain rfl := arr_eq e
  exact ⟨c, rfl, m⟩
set_option maxRecDepth 100000 in
theorem reply_argW {base : Nat} {v : Value} {d : DataW H} {p : List MemPlace} (hv : Value.okWide Tryz.prog w .any base 27 v) (h : DataW.Trod enc Tryz.prog w 0 (fun _ => true) true 27 v d p) :
    ∃ r : ReplyM, v = .agg (replyCells r) ∧ r.verf.body.size ∈ d.weights Tryz.prog 27 ∧ r.results.size ∈ d.weights Tryz.prog 27 := by
  obtain ⟨cs, rfl, _⟩ := okWide_row Tryz.underlying27 hv
  obtain ⟨fuel, hf⟩ := h
  obtain ⟨r, e, m⟩ := open_replyW (cs := cs.toList) (by simpa only [Value.cells] using hf)
  obtain rfl := arr_eq e
  exact ⟨r, rfl, m⟩
set_option maxRecDepth 100000 in
theorem str_argW {base : Nat} {v : Value} {d : DataW H} {p : List MemPlace} (hv : Value.okWide Tryz.prog w .any base 9 v) (h : DataW.Trod enc Tryz.prog w 0 (fun _ => true) true 9 v d p) : ∃ s : ByteArray, v = .string s ∧ s.size ∈ d.weights Tryz.prog 9 := by
  obtain ⟨s, rfl, rfl, _⟩ := Go.ChangeMaps.open_string Tryz.underlying9 hv h
  exact ⟨s, rfl, by simp [DataW.weights]⟩
theorem int_wf {n : Int} (h : (Lit.int .i64 n).wf = true) : -9223372036854775808 ≤ n ∧ n ≤ 9223372036854775807 := by
  simp only [Lit.wf, Bool.and_eq_true, decide_eq_true_eq] at h
  exact h
/-- a parameter's weight is within reach. -/
theorem reach_of {ts : List TypeId} {ds : List (DataW H)} (h : (DataW.weightsEach Tryz.prog ts ds).all (· ≤ reachBytes) = true) (j : Nat) {t : TypeId} {d : DataW H} (ht : ts[j]? = some t) (hd : ds[j]? = some d) {n : Nat} (hn : n ∈ d.weights Tryz.prog t) : n ≤ 140737488351232 := by
  have := List.all_eq_true.1 h n (DataW.weights_mem_each ht hd n hn)
  exact of_decide_eq_true this
end
end Go.Proofs.YtcndifccbkekhaaGreatDoor

/- An argument that can be read, with its numbers' bounds: calls and replies. -/
namespace Go.Proofs.YtcndifccbkekhaaGreatDoor
open Go.ChangeShapes Go.WideShapes Go.RowKit
set_option linter.unusedVariables false
set_option linter.unusedSimpArgs false

section
variable {H : Type} {enc : TypeId × Value → H} {w : World}
theorem open_authI {fuel : Nat} {cs : List Value} {x : DataW H × List MemPlace} (h : DataW.trod enc Tryz.prog w 0 (fun _ => true) true fuel 23 cs = some x) :
    ∃ a : AuthM, cs = [.int .i64 a.flavor, .string a.body] ∧ InI a.flavor ∧ a.body.size ∈ x.1.weights Tryz.prog 23 := by
  have hl := trod_len Tryz.underlying23 h
  rw [cellsAuth] at hl
  match cs, hl with
  | [c0, c1], _ =>
  obtain ⟨_, _, h0, _⟩ := trod_atW Tryz.underlying23 h 0 3 0 1 rfl cellsInt
  obtain ⟨_, _, h1, w1⟩ := trod_atW Tryz.underlying23 h 1 9 1 1 rfl cellsStr
  obtain ⟨n0, e0, _, q0⟩ := DataW.trod_int Tryz.underlying3 h0
  obtain ⟨n1, e1, m1⟩ := open_strW h1
  obtain rfl := one_eq e0
  obtain rfl := one_eq e1
  exact ⟨⟨n0, n1⟩, rfl, int_wf q0, w1 _ m1⟩
theorem open_callI {fuel : Nat} {cs : List Value} {x : DataW H × List MemPlace} (h : DataW.trod enc Tryz.prog w 0 (fun _ => true) true fuel 25 cs = some x) :
    ∃ c : CallM, cs = (callCells c).toList ∧ CallI c ∧ c.cred.body.size ∈ x.1.weights Tryz.prog 25 ∧ c.verf.body.size ∈ x.1.weights Tryz.prog 25 ∧ c.args.size ∈ x.1.weights Tryz.prog 25 := by
  have hl := trod_len Tryz.underlying25 h
  rw [cellsCall] at hl
  match cs, hl with
  | [c0, c1, c2, c3, c4, c5, c6, c7, c8, c9], _ =>
  obtain ⟨_, _, h0, _⟩ := trod_atW Tryz.underlying25 h 0 3 0 1 rfl cellsInt
  obtain ⟨_, _, h1, _⟩ := trod_atW Tryz.underlying25 h 1 3 1 1 rfl cellsInt
  obtain ⟨_, _, h2, _⟩ := trod_atW Tryz.underlying25 h 2 3 2 1 rfl cellsInt
  obtain ⟨_, _, h3, _⟩ := trod_atW Tryz.underlying25 h 3 3 3 1 rfl cellsInt
  obtain ⟨_, _, h4, _⟩ := trod_atW Tryz.underlying25 h 4 3 4 1 rfl cellsInt
  obtain ⟨_, _, h5, w5⟩ := trod_atW Tryz.underlying25 h 5 23 5 2 rfl cellsAuth
  obtain ⟨_, _, h6, w6⟩ := trod_atW Tryz.underlying25 h 6 23 7 2 rfl cellsAuth
  obtain ⟨_, _, h7, w7⟩ := trod_atW Tryz.underlying25 h 7 9 9 1 rfl cellsStr
  obtain ⟨n0, e0, _, q0⟩ := DataW.trod_int Tryz.underlying3 h0
  obtain ⟨n1, e1, _, q1⟩ := DataW.trod_int Tryz.underlying3 h1
  obtain ⟨n2, e2, _, q2⟩ := DataW.trod_int Tryz.underlying3 h2
  obtain ⟨n3, e3, _, q3⟩ := DataW.trod_int Tryz.underlying3 h3
  obtain ⟨n4, e4, _, q4⟩ := DataW.trod_int Tryz.underlying3 h4
  obtain ⟨a5, e5, q5, m5⟩ := open_authI h5
  obtain ⟨a6, e6, q6, m6⟩ := open_authI h6
  obtain ⟨n7, e7, m7⟩ := open_strW h7
  obtain rfl := one_eq e0
  obtain rfl := one_eq e1
  obtain rfl := one_eq e2
  obtain rfl := one_eq e3
  obtain rfl := one_eq e4
  obtain rfl := one_eq e7
  obtain ⟨rfl, rfl⟩ := two_eq e5
  obtain ⟨rfl, rfl⟩ := two_eq e6
  exact ⟨⟨n0, n1, n2, n3, n4, a5, a6, n7⟩, rfl, ⟨int_wf q0, int_wf q2, int_wf q3, int_wf q4, q5, q6⟩, w5 _ m5, w6 _ m6, w7 _ m7⟩
theorem open_replyI {fuel : Nat} {cs : List Value} {x : DataW H × List MemPlace} (h : DataW.trod enc Tryz.prog w 0 (fun _ => true) true fuel 27 cs = some x) :
    ∃ r : ReplyM, cs = (replyCells r).toList ∧ ReplyI r ∧ r.verf.body.size ∈ x.1.weights Tryz.prog 27 ∧ r.results.size ∈ x.1.weights Tryz.prog 27 := by
  have hl := trod_len Tryz.underlying27 h
  rw [cellsReply] at hl
  match cs, hl with
  | [c0, c1, c2, c3, c4, c5, c6, c7, c8, c9], _ =>
  obtain ⟨_, _, h0, _⟩ := trod_atW Tryz.underlying27 h 0 3 0 1 rfl cellsInt
  obtain ⟨_, _, h1, _⟩ := trod_atW Tryz.underlying27 h 1 4 1 1 rfl cellsBool
  obtain ⟨_, _, h2, w2⟩ := trod_atW Tryz.underlying27 h 2 23 2 2 rfl cellsAuth
  obtain ⟨_, _, h3, _⟩ := trod_atW Tryz.underlying27 h 3 3 4 1 rfl cellsInt
  obtain ⟨_, _, h4, _⟩ := trod_atW Tryz.underlying27 h 4 3 5 1 rfl cellsInt
  obtain ⟨_, _, h5, _⟩ := trod_atW Tryz.underlying27 h 5 3 6 1 rfl cellsInt
  obtain ⟨_, _, h6, _⟩ := trod_atW Tryz.underlying27 h 6 3 7 1 rfl cellsInt
  obtain ⟨_, _, h7, _⟩ := trod_atW Tryz.underlying27 h 7 3 8 1 rfl cellsInt
  obtain ⟨_, _, h8, w8⟩ := trod_atW Tryz.underlying27 h 8 9 9 1 rfl cellsStr
  obtain ⟨n0, e0, _, q0⟩ := DataW.trod_int Tryz.underlying3 h0
  obtain ⟨n1, e1, _⟩ := DataW.trod_bool Tryz.underlying4 h1
  obtain ⟨a2, e2, q2, m2⟩ := open_authI h2
  obtain ⟨n3, e3, _, q3⟩ := DataW.trod_int Tryz.underlying3 h3
  obtain ⟨n4, e4, _, q4⟩ := DataW.trod_int Tryz.underlying3 h4
  obtain ⟨n5, e5, _, q5⟩ := DataW.trod_int Tryz.underlying3 h5
  obtain ⟨n6, e6, _, q6⟩ := DataW.trod_int Tryz.underlying3 h6
  obtain ⟨n7, e7, _, q7⟩ := DataW.trod_int Tryz.underlying3 h7
  obtain ⟨n8, e8, m8⟩ := open_strW h8
  obtain rfl := one_eq e0
  obtain rfl := one_eq e1
  obtain ⟨rfl, rfl⟩ := two_eq e2
  obtain rfl := one_eq e3
  obtain rfl := one_eq e4
  obtain rfl := one_eq e5
  obtain rfl := one_eq e6
  obtain rfl := one_eq e7
  obtain rfl := one_eq e8
  exact ⟨⟨n0, n1, a2, n3, n4, n5, n6, n7, n8⟩, rfl, ⟨int_wf q0, q2, int_wf q3, int_wf q4, int_wf q5, int_wf q6, int_wf q7⟩, w2 _ m2, w8 _ m8⟩

set_option maxRecDepth 100000 in
theorem call_argI {base : Nat} {v : Value} {d : DataW H} {p : List MemPlace} (hv : Value.okWide Tryz.prog w .any base 25 v) (h : DataW.Trod enc Tryz.prog w 0 (fun _ => true) true 25 v d p) :
    ∃ c : CallM, v = .agg (callCells c) ∧ CallI c ∧ c.cred.body.size ∈ d.weights Tryz.prog 25 ∧ c.verf.body.size ∈ d.weights Tryz.prog 25 ∧ c.args.size ∈ d.weights Tryz.prog 25 := by
  obtain ⟨cs, rfl, _⟩ := okWide_row Tryz.underlying25 hv
  obtain ⟨fuel, hf⟩ := h
  obtain ⟨c, e, m⟩ := open_callI (cs := cs.toList) (by simpa only [Value.cells] using hf)
  obtain rfl := arr_eq e
  exact ⟨c, rfl, m⟩
set_option maxRecDepth 100000 in
theorem reply_argI {base : Nat} {v : Value} {d : DataW H} {p : List MemPlace} (hv : Value.okWide Tryz.prog w .any base 27 v) (h : DataW.Trod enc Tryz.prog w 0 (fun _ => true) true 27 v d p) :
    ∃ r : ReplyM, v = .agg (replyCells r) ∧ ReplyI r ∧ r.verf.body.size ∈ d.weights Tryz.prog 27 ∧ r.results.size ∈ d.weights Tryz.prog 27 := by
  obtain ⟨cs, rfl, _⟩ := okWide_row Tryz.underlying27 hv
  obtain ⟨fuel, hf⟩ := h
  obtain ⟨r, e, m⟩ := open_replyI (cs := cs.toList) (by simpa only [Value.cells] using hf)
  obtain rfl := arr_eq e
  exact ⟨r, rfl, m⟩
end
end Go.Proofs.YtcndifccbkekhaaGreatDoor
