/- A client: Due. -/
import Derived.Test.YtlcjfafmmoncpaaGreatDoorEj
import Derived.Maps.AppendAt
namespace Go.Proofs.YtlcjfafmmoncpaaGreatDoor
open Go.RowKit
set_option linter.unusedVariables false
set_option linter.unusedSimpArgs false

structure PackM where
  src : Int
  dst : Int
  data : ByteArray
def PackM.cells (p : PackM) : List Value := [.int .i64 p.src, .int .i64 p.dst, .string p.data]
def packRow (l : List PackM) : List Value := l.flatMap PackM.cells
theorem packRow_append (l : List PackM) (o : PackM) : packRow (l ++ [o]) = packRow l ++ o.cells := by simp [packRow]
theorem packRow_length (l : List PackM) : (packRow l).length = l.length * 3 := by
  induction l with
  | nil => rfl
  | cons o l ih => simp only [packRow, List.flatMap_cons, List.length_append, List.length_cons] at *; rw [ih]; simp only [PackM.cells, List.length_cons, List.length_nil]; omega

/-- the same call, but for what is counted. -/
structure SameCall (r r' : CallR) : Prop where
  blocks : r'.blocks = r.blocks
  k : r'.k = r.k
  qc : r'.qc = r.qc
  qs : r'.qs = r.qs
  qp : r'.qp = r.qp
  qv : r'.qv = r.qv
  qr : r'.qr = r.qr
  qa : r'.qa = r.qa
  qt : r'.qt = r.qt
  seq : r'.seq = r.seq
  dst : r'.dst = r.dst
  prog : r'.prog = r.prog
  vers : r'.vers = r.vers
  proc : r'.proc = r.proc
  args : r'.args = r.args
/-- a store into a call's own cells. -/
theorem Cli.setCall {w : World} {b : Nat} {S : CliS} (h : Cli w b S) {l1 l2 : List CallR} {r r' : CallR} (hl : S.calls = l1 ++ r :: l2) (hs : SameCall r r') (i : Nat) (v : Value) (hc : r'.cells = r.cells.setIfInBounds i v) :
    Cli (w.setCell ⟨r.k, i, none⟩ v) b { S with calls := l1 ++ r' :: l2 } := by
  have hr : r ∈ S.calls := by rw [hl]; simp
  have hbx := (h.rest.each r hr).box
  have nt : ∀ (k : Nat) (c : Array Value) (t : Nat), w.heap[k]? = some (.cells c t (0, 0)) → t ≠ 141 → (w.setCell ⟨r.k, i, none⟩ v).heap[k]? = w.heap[k]? := fun k c t hk ht => Below.heap_setCell _ _ _ _ (fun e => by
    rw [show (⟨r.k, i, none⟩ : Addr).block = r.k from rfl] at e
    rw [e, hbx] at hk
    simp only [Option.some.injEq, Obj.cells.injEq] at hk
    exact ht hk.2.1.symm)
  have hkn : ∀ q ∈ l1 ++ l2, q.k ≠ r.k := by
    have hn := h.rest.nodup
    rw [hl, List.map_append, List.map_cons] at hn
    intro q hq e
    obtain ⟨_, h2, h3⟩ := List.nodup_append.1 hn
    rcases List.mem_append.1 hq with hq | hq
    · exact h3 q.k (List.mem_map.2 ⟨q, hq, rfl⟩) r.k List.mem_cons_self e
    · exact (List.nodup_cons.1 h2).1 (List.mem_map.2 ⟨q, hq, e⟩)
  have old : ∀ q ∈ l1 ++ l2, CallAt (w.setCell ⟨r.k, i, none⟩ v) b q := fun q hq => by
    have hqm : q ∈ S.calls := by rw [hl]; rcases List.mem_append.1 hq with h | h <;> simp [h]
    have hqa := h.rest.each q hqm
    refine hqa.keep (fun k hm => Below.heap_setCell _ _ _ _ ?_)
    show k ≠ r.k
    by_cases e : k = q.k
    · rw [e]; exact hkn q hq
    · exact hqa.caps_ne hbx hm e
  have new : CallAt (w.setCell ⟨r.k, i, none⟩ v) b r' := by
    have ha := h.rest.each r hr
    refine ⟨?_, ?_, ?_, ?_, ?_, ?_, ?_, ?_⟩
    · rw [hs.k, hc]; exact setOf' hbx i v
    · rw [hs.qc]; exact (nt _ _ _ ha.c (by decide)).trans ha.c
    · rw [hs.qs, hs.seq]; exact (nt _ _ _ ha.s (by decide)).trans ha.s
    · rw [hs.qp, hs.prog]; exact (nt _ _ _ ha.p (by decide)).trans ha.p
    · rw [hs.qv, hs.vers]; exact (nt _ _ _ ha.v (by decide)).trans ha.v
    · rw [hs.qr, hs.proc]; exact (nt _ _ _ ha.y (by decide)).trans ha.y
    · rw [hs.qa, hs.args]; exact (nt _ _ _ ha.a (by decide)).trans ha.a
    · rw [hs.qt, hs.dst]; exact (nt _ _ _ ha.t (by decide)).trans ha.t
  have hz : w.heap.size = (w.setCell ⟨r.k, i, none⟩ v).heap.size := (World.size_setCell _ _ _).symm
  have hmap : (l1 ++ r' :: l2).map (fun r => ptrV r.k) = S.calls.map fun r => ptrV r.k := by rw [hl]; simp [hs.k]
  have hlen : (l1 ++ r' :: l2).length = S.calls.length := by rw [hl]; simp
  have hA : ∀ a, S.A = some a → (w.setCell ⟨r.k, i, none⟩ v).heap[a.block]? = w.heap[a.block]? := fun a ha => Below.heap_setCell _ _ _ _ (fun e => by
    rw [show (⟨r.k, i, none⟩ : Addr).block = r.k from rfl] at e
    obtain ⟨x, hx⟩ := (h.rest.grpT a ha).2 _ (by rw [e]; exact hbx)
    simp at hx)
  refine ⟨(nt _ _ _ h.box (by decide)).trans h.box, (nt _ _ _ h.rest.met (by decide)).trans h.rest.met, ?_, fun a ha => ⟨hz ▸ (h.rest.grpT a ha).1, fun c hc => (h.rest.grpT a ha).2 c (by rw [← hA a ha]; exact hc)⟩, ?_, ?_, ?_, ?_⟩
  · rcases h.rest.grp with h0 | ⟨g, off, ha, hg, hc⟩
    · exact .inl h0
    · have e := hA ⟨g, off, none⟩ ha
      exact .inr ⟨g, off, ha, hz ▸ hg, fun j hj => (World.cell?_of_block (w := w) (a := ⟨g, off + j, none⟩) e).trans (hc j hj)⟩
  · show World.ownsRow _ 0 _ 1 S.vc (l1 ++ r' :: l2).length ((l1 ++ r' :: l2).map fun r => ptrV r.k)
    rw [hmap, hlen]
    refine ownsRow_keep h.rest.own (fun g e => Below.heap_setCell _ _ _ _ (fun e2 => ?_))
    exact h.rest.vc_ne hbx (by decide) (by rw [e]; exact congrArg some e2)
  · refine ownsRow_keep h.rest.outs (fun g e => ?_)
    rcases h.rest.outs.2 with ⟨h0, _⟩ | ⟨g', cap, cur, h0, _, hg, _⟩
    · rw [h0] at e; cases e
    · rw [h0] at e; obtain rfl : g' = g := Option.some.inj e; exact nt _ _ _ hg (by decide)
  · intro q hq
    rcases List.mem_append.1 hq with hq | hq
    · exact old q (List.mem_append_left _ hq)
    · rcases List.mem_cons.1 hq with rfl | hq
      · exact new
      · exact old q (List.mem_append_right _ hq)
  · have : (l1 ++ r' :: l2).map (·.k) = S.calls.map (·.k) := by rw [hl]; simp [hs.k]
    show ((l1 ++ r' :: l2).map (·.k)).Nodup
    rw [this]
    exact h.rest.nodup

structure CallN (r : CallR) : Prop where
  i0 : 0 ≤ r.iss
  i1 : r.iss ≤ 4611686018427387904
  g0 : 0 ≤ r.given
  g1 : r.given ≤ 4611686018427387904
  ar : r.args.size ≤ 140737488351232
/-- what Due makes of a call that waits, and what it gives. -/
def dueCall (p : PaceM) (now : Int) (r : CallR) : CallR :=
  if dueM p r.iss now ≤ r.done then r else { r with done := dueM p r.iss now, first := if r.given = 0 then now else r.first, given := r.given + 1 }
def dueOut (S : CliS) (water : Int) (r : CallR) : List PackM :=
  if dueM S.cfg.pace r.iss S.now ≤ r.done then [] else [⟨S.cfg.addr, r.dst, requestM S r water⟩]
def dueOuts (S : CliS) (water : Int) (l : List CallR) : List PackM := l.flatMap (dueOut S water)
theorem dueCall_same (p : PaceM) (now : Int) (r : CallR) : SameCall r (dueCall p now r) := by
  unfold dueCall
  split <;> exact ⟨rfl, rfl, rfl, rfl, rfl, rfl, rfl, rfl, rfl, rfl, rfl, rfl, rfl, rfl, rfl⟩
/-- behind k rounds. -/
def dueS (S : CliS) (k : Nat) : CliS := { S with calls := (S.calls.take k).map (dueCall S.cfg.pace S.now) ++ S.calls.drop k }
theorem dueS_zero (S : CliS) : dueS S 0 = S := by unfold dueS; simp
theorem dueS_end (S : CliS) : dueS S S.calls.length = { S with calls := S.calls.map (dueCall S.cfg.pace S.now) } := by unfold dueS; simp
theorem dueS_calls (S : CliS) {k : Nat} (hk : k < S.calls.length) : (dueS S k).calls = (S.calls.take k).map (dueCall S.cfg.pace S.now) ++ S.calls[k] :: S.calls.drop (k + 1) := by
  unfold dueS
  show _ ++ S.calls.drop k = _
  rw [List.drop_eq_getElem_cons hk]
theorem dueS_succ (S : CliS) {k : Nat} (hk : k < S.calls.length) : dueS S (k + 1) = { dueS S k with calls := (S.calls.take k).map (dueCall S.cfg.pace S.now) ++ dueCall S.cfg.pace S.now S.calls[k] :: S.calls.drop (k + 1) } := by
  unfold dueS
  have e : (S.calls.take (k + 1)).map (dueCall S.cfg.pace S.now) ++ S.calls.drop (k + 1) = (S.calls.take k).map (dueCall S.cfg.pace S.now) ++ dueCall S.cfg.pace S.now S.calls[k] :: S.calls.drop (k + 1) := by
    rw [List.take_succ_eq_append_getElem hk, List.map_append, List.append_assoc, List.map_cons, List.map_nil, List.singleton_append]
  show { S with calls := _ } = _
  rw [e]
theorem dueOuts_succ (S : CliS) (water : Int) {k : Nat} (hk : k < S.calls.length) : dueOuts S water (S.calls.take (k + 1)) = dueOuts S water (S.calls.take k) ++ dueOut S water S.calls[k] := by
  unfold dueOuts
  rw [List.take_succ_eq_append_getElem hk, List.flatMap_append]
  simp only [List.flatMap_cons, List.flatMap_nil, List.append_nil]
theorem dueOuts_le (S : CliS) (water : Int) (l : List CallR) : (dueOuts S water l).length ≤ l.length := by
  induction l with
  | nil => simp [dueOuts]
  | cons r l ih =>
    simp only [dueOuts, List.flatMap_cons, List.length_append, List.length_cons] at *
    have : (dueOut S water r).length ≤ 1 := by unfold dueOut; split <;> simp
    omega
theorem dueS_vc (S : CliS) (k : Nat) : (dueS S k).vc = S.vc := rfl

theorem Clip_any (A : Option Addr) (n c : Nat) (w : World) (hn : n ≤ c) (hc : c ≤ maxLen) : Calls Tryz.prog 109 #[.slice A n c] w fun r w' => r = .returned (.slice A n n) ∧ w' = w := by
  unfold maxLen at hc
  go_enter Tryz.func109, Tryz.ntmps109
  go_wp2
  go_ret
  exact ⟨rfl, rfl⟩
theorem Cli.given0 {w : World} {b : Nat} {S : CliS} (h : Cli w b S) {l1 l2 : List CallR} {r : CallR} (hl : S.calls = l1 ++ r :: l2) (n now : Int) :
    Cli (((w.setCell ⟨r.k, 3, none⟩ (.int .i64 n)).setCell ⟨r.k, 5, none⟩ (.int .i64 now)).setCell ⟨r.k, 4, none⟩ (.int .i64 1)) b { S with calls := l1 ++ { r with done := n, first := now, given := 1 } :: l2 } :=
  ((h.setCall hl (r' := { r with done := n }) ⟨rfl, rfl, rfl, rfl, rfl, rfl, rfl, rfl, rfl, rfl, rfl, rfl, rfl, rfl, rfl⟩ 3 (.int .i64 n) rfl).setCall (l1 := l1) (l2 := l2) (r := { r with done := n }) (r' := { r with done := n, first := now }) rfl ⟨rfl, rfl, rfl, rfl, rfl, rfl, rfl, rfl, rfl, rfl, rfl, rfl, rfl, rfl, rfl⟩ 5 (.int .i64 now) rfl).setCall (l1 := l1) (l2 := l2) (r := { r with done := n, first := now }) (r' := { r with done := n, first := now, given := 1 }) rfl ⟨rfl, rfl, rfl, rfl, rfl, rfl, rfl, rfl, rfl, rfl, rfl, rfl, rfl, rfl, rfl⟩ 4 (.int .i64 1) rfl
theorem Cli.given1 {w : World} {b : Nat} {S : CliS} (h : Cli w b S) {l1 l2 : List CallR} {r : CallR} (hl : S.calls = l1 ++ r :: l2) (n x : Int) :
    Cli ((w.setCell ⟨r.k, 3, none⟩ (.int .i64 n)).setCell ⟨r.k, 4, none⟩ (.int .i64 x)) b { S with calls := l1 ++ { r with done := n, given := x } :: l2 } :=
  (h.setCall hl (r' := { r with done := n }) ⟨rfl, rfl, rfl, rfl, rfl, rfl, rfl, rfl, rfl, rfl, rfl, rfl, rfl, rfl, rfl⟩ 3 (.int .i64 n) rfl).setCall (l1 := l1) (l2 := l2) (r := { r with done := n }) (r' := { r with done := n, given := x }) rfl ⟨rfl, rfl, rfl, rfl, rfl, rfl, rfl, rfl, rfl, rfl, rfl, rfl, rfl, rfl, rfl⟩ 4 (.int .i64 x) rfl
theorem dueCall_0 (p : PaceM) (now : Int) (r : CallR) (n : Int) (hn : n = dueM p r.iss now) (hd : r.done < n) (h0 : r.given = 0) : dueCall p now r = { r with done := n, first := now, given := 1 } := by
  unfold dueCall
  rw [← hn, if_neg (by omega), if_pos h0, h0]
  rfl
theorem dueCall_1 (p : PaceM) (now : Int) (r : CallR) (n : Int) (hn : n = dueM p r.iss now) (hd : r.done < n) (h0 : r.given ≠ 0) : dueCall p now r = { r with done := n, given := r.given + 1 } := by
  unfold dueCall
  rw [← hn, if_neg (by omega), if_neg h0]
theorem request_same {S S' : CliS} {r r' : CallR} (hs : SameCall r r') (hc : S'.cfg = S.cfg) (water : Int) : requestM S' r' water = requestM S r water := by
  unfold requestM markOf
  rw [hc, hs.seq, hs.prog, hs.vers, hs.proc, hs.args]
theorem caps_same {r r' : CallR} (hs : SameCall r r') : r'.caps = r.caps := by
  unfold CallR.caps
  rw [hs.qc, hs.qs, hs.qp, hs.qv, hs.qr, hs.qa, hs.qt]
/-- the request of a call that was counted on. -/
theorem request_of {w : World} {b : Nat} {S S' : CliS} (h : Cli w b S') (hc : S'.cfg = S.cfg) (hg : ErrT w) {r r' : CallR} (hs : SameCall r r') (hr : r' ∈ S'.calls) (water : Int) (hm : S.cfg.sys.machine.size ≤ 140737488351232) (hgl : S.cfg.sys.groups.length ≤ 1099511627776) (ha : r.args.size ≤ 140737488351232) :
    Calls Tryz.prog 105 #[.int .i64 water, .pointer (some ⟨r.qc, 0, none⟩), .pointer (some ⟨r.qs, 0, none⟩), .pointer (some ⟨r.qp, 0, none⟩), .pointer (some ⟨r.qv, 0, none⟩), .pointer (some ⟨r.qr, 0, none⟩), .pointer (some ⟨r.qa, 0, none⟩), .pointer (some ⟨r.qt, 0, none⟩)] w fun e w' => e = .returned (.agg #[.int .i64 S.cfg.addr, .int .i64 r.dst, .string (requestM S r water)]) ∧ Fr (fun _ => False) w w' := by
  have := request_any h hg r' (h.rest.each r' hr) water (by rw [hc]; exact hm) (by rw [hc]; exact hgl) (by rw [hs.args]; exact ha)
  rw [request_same hs hc, caps_same hs, hs.dst, hc] at this
  exact this
theorem fr_two {w w2 : World} {q : Nat} (h : Fr (fun _ => False) w w2) (i j : Nat) (u v : Value) : Fr (fun k => k = q) w ((w2.setCell ⟨q, i, none⟩ u).setCell ⟨q, j, none⟩ v) := by
  have h1 : Fr (fun k => k = q) w w2 := h.mono (fun _ _ e => e.elim)
  have h2 : Fr (fun k => k = q) w (w2.setCell ⟨q, i, none⟩ u) := h1.setCell (p := ⟨q, i, none⟩) (.inl rfl) u
  exact h2.setCell (p := ⟨q, j, none⟩) (.inl rfl) v
theorem fr_three {w w2 : World} {q : Nat} (h : Fr (fun _ => False) w w2) (i j l : Nat) (u v x : Value) : Fr (fun k => k = q) w (((w2.setCell ⟨q, i, none⟩ u).setCell ⟨q, j, none⟩ v).setCell ⟨q, l, none⟩ x) :=
  (fr_two h i j u v).setCell (p := ⟨q, l, none⟩) (.inl rfl) x
end Go.Proofs.YtlcjfafmmoncpaaGreatDoor
