/- A client in memory: its cells, the calls that wait, its outcomes; what it stands on. -/
import Derived.Test.YtbegjpmifcnieaaGreatDoorEc
namespace Go.Proofs.YtbegjpmifcnieaaGreatDoor
open Go.RowKit
set_option linter.unusedVariables false
set_option linter.unusedSimpArgs false

/-- a call that waits: its block, the blocks of what its request has captured; what is known of it. -/
structure CallR where
  k : Nat
  qc : Nat
  qs : Nat
  qp : Nat
  qv : Nat
  qr : Nat
  qa : Nat
  qt : Nat
  seq : Int
  dst : Int
  iss : Int
  done : Int
  given : Int
  first : Int
  prog : Int
  vers : Int
  proc : Int
  args : ByteArray
def ptrV (k : Nat) : Value := .pointer (some ⟨k, 0, none⟩)
def CallR.caps (r : CallR) : Array Value := #[.pointer (some ⟨r.qc, 0, none⟩), .pointer (some ⟨r.qs, 0, none⟩), .pointer (some ⟨r.qp, 0, none⟩), .pointer (some ⟨r.qv, 0, none⟩), .pointer (some ⟨r.qr, 0, none⟩), .pointer (some ⟨r.qa, 0, none⟩), .pointer (some ⟨r.qt, 0, none⟩)]
def CallR.cells (r : CallR) : Array Value := #[.int .i64 r.seq, .int .i64 r.dst, .int .i64 r.iss, .int .i64 r.done, .int .i64 r.given, .int .i64 r.first, .func (.func 125) #[] r.caps]
def CallR.blocks (r : CallR) : List Nat := [r.k, r.qc, r.qs, r.qp, r.qv, r.qr, r.qa, r.qt]

structure CallAt (w : World) (b : Nat) (r : CallR) : Prop where
  box : w.heap[r.k]? = some (.cells r.cells 230 (0, 0))
  c : w.heap[r.qc]? = some (.cells #[.pointer (some ⟨b, 0, none⟩)] 48 (0, 0))
  s : w.heap[r.qs]? = some (.cells #[.int .i64 r.seq] 3 (0, 0))
  p : w.heap[r.qp]? = some (.cells #[.int .i64 r.prog] 3 (0, 0))
  v : w.heap[r.qv]? = some (.cells #[.int .i64 r.vers] 3 (0, 0))
  y : w.heap[r.qr]? = some (.cells #[.int .i64 r.proc] 3 (0, 0))
  a : w.heap[r.qa]? = some (.cells #[.string r.args] 9 (0, 0))
  t : w.heap[r.qt]? = some (.cells #[.int .i64 r.dst] 3 (0, 0))
theorem CallAt.keep {w w' : World} {b : Nat} {r : CallR} (h : CallAt w b r) (hk : ∀ k, k ∈ r.blocks → w'.heap[k]? = w.heap[k]?) : CallAt w' b r :=
  ⟨(hk _ (by simp [CallR.blocks])).trans h.box, (hk _ (by simp [CallR.blocks])).trans h.c, (hk _ (by simp [CallR.blocks])).trans h.s, (hk _ (by simp [CallR.blocks])).trans h.p,
   (hk _ (by simp [CallR.blocks])).trans h.v, (hk _ (by simp [CallR.blocks])).trans h.y, (hk _ (by simp [CallR.blocks])).trans h.a, (hk _ (by simp [CallR.blocks])).trans h.t⟩
/-- each of its blocks lies in memory, and is none of another kind's. -/
theorem CallAt.kind {w : World} {b : Nat} {r : CallR} (h : CallAt w b r) {k : Nat} (hk : k ∈ r.blocks) : ∃ c t, w.heap[k]? = some (.cells c t (0, 0)) ∧ (t = 230 ∨ t = 48 ∨ t = 3 ∨ t = 9) := by
  simp only [CallR.blocks, List.mem_cons, List.not_mem_nil, or_false] at hk
  rcases hk with rfl | rfl | rfl | rfl | rfl | rfl | rfl | rfl
  · exact ⟨_, _, h.box, .inl rfl⟩
  · exact ⟨_, _, h.c, .inr (.inl rfl)⟩
  · exact ⟨_, _, h.s, .inr (.inr (.inl rfl))⟩
  · exact ⟨_, _, h.p, .inr (.inr (.inl rfl))⟩
  · exact ⟨_, _, h.v, .inr (.inr (.inl rfl))⟩
  · exact ⟨_, _, h.y, .inr (.inr (.inl rfl))⟩
  · exact ⟨_, _, h.a, .inr (.inr (.inr rfl))⟩
  · exact ⟨_, _, h.t, .inr (.inr (.inl rfl))⟩
/-- its captured blocks are none of calls. -/
theorem CallAt.caps_ne {w : World} {b : Nat} {r : CallR} (h : CallAt w b r) {j : Nat} {c : Array Value} (hj : w.heap[j]? = some (.cells c 230 (0, 0))) {k : Nat} (hk : k ∈ r.blocks) (hn : k ≠ r.k) : k ≠ j := by
  simp only [CallR.blocks, List.mem_cons, List.not_mem_nil, or_false] at hk
  intro e
  subst e
  rcases hk with rfl | rfl | rfl | rfl | rfl | rfl | rfl | rfl
  · exact hn rfl
  · rw [h.c] at hj; simp at hj
  · rw [h.s] at hj; simp at hj
  · rw [h.p] at hj; simp at hj
  · rw [h.v] at hj; simp at hj
  · rw [h.y] at hj; simp at hj
  · rw [h.a] at hj; simp at hj
  · rw [h.t] at hj; simp at hj

structure OutM where
  seq : Int
  status : Int
  accept : Int
  reject : Int
  why : Int
  low : Int
  high : Int
  results : ByteArray
  at' : Int
def OutM.cells (o : OutM) : List Value := [.int .i64 o.seq, .int .i64 o.status, .int .i64 o.accept, .int .i64 o.reject, .int .i64 o.why, .int .i64 o.low, .int .i64 o.high, .string o.results, .int .i64 o.at']
def outRow (l : List OutM) : List Value := l.flatMap OutM.cells
theorem outRow_append (l : List OutM) (o : OutM) : outRow (l ++ [o]) = outRow l ++ o.cells := by simp [outRow]
theorem outRow_length (l : List OutM) : (outRow l).length = l.length * 9 := by
  induction l with
  | nil => rfl
  | cons o l ih => simp only [outRow, List.flatMap_cons, List.length_append, List.length_cons] at *; rw [ih]; simp only [OutM.cells, List.length_cons, List.length_nil]; omega

structure CliS where
  cfg : CfgM
  A : Option Addr
  n : Nat
  next : Int
  now : Int
  calls : List CallR
  vc : Value
  outs : List OutM
  vo : Value
  m : Nat
  heard : Bool
  mean : Nat
  spread : Nat

/-- all of a client but its own cells. -/
structure CliRest (w : World) (b : Nat) (S : CliS) : Prop where
  met : w.heap[S.m]? = some (.cells #[.bool S.heard, .float .f32 S.mean, .float .f32 S.spread] 254 (0, 0))
  grp : IntsAt w S.A S.cfg.sys.groups
  grpT : ∀ a, S.A = some a → a.block < w.heap.size ∧ ∀ c, w.heap[a.block]? = some c → ∃ x, c = .cells x 3 (0, 0)
  own : w.ownsRow 0 228 1 S.vc S.calls.length (S.calls.map fun r => ptrV r.k)
  outs : w.ownsRow 0 146 9 S.vo S.outs.length (outRow S.outs)
  each : ∀ r ∈ S.calls, CallAt w b r
  nodup : (S.calls.map (·.k)).Nodup
/-- what a client stands on, but its own block. -/
def RFoot (S : CliS) (k : Nat) : Prop := k = S.m ∨ (∃ a, S.A = some a ∧ k = a.block) ∨ S.vc.ownBlock = some k ∨ S.vo.ownBlock = some k ∨ ∃ r ∈ S.calls, k ∈ r.blocks
def Foot (b : Nat) (S : CliS) (k : Nat) : Prop := k = b ∨ RFoot S k
def cliBox (S : CliS) : Array Value := cliCells S.cfg S.A S.n S.next S.now S.vc S.vo (.pointer (some ⟨S.m, 0, none⟩))
structure Cli (w : World) (b : Nat) (S : CliS) : Prop where
  box : w.heap[b]? = some (.cells (cliBox S) 161 (0, 0))
  rest : CliRest w b S

theorem CliRest.keep {w w' : World} {b : Nat} {S : CliS} (h : CliRest w b S) (hz : w.heap.size ≤ w'.heap.size) (hk : ∀ k, RFoot S k → w'.heap[k]? = w.heap[k]?) : CliRest w' b S := by
  refine ⟨(hk _ (.inl rfl)).trans h.met, ?_, fun a ha => ⟨Nat.lt_of_lt_of_le (h.grpT a ha).1 hz, fun c hc => (h.grpT a ha).2 c (by rw [← hk _ (.inr (.inl ⟨a, ha, rfl⟩))]; exact hc)⟩,
    ownsRow_keep h.own (fun g e => hk _ (.inr (.inr (.inl e)))), ownsRow_keep h.outs (fun g e => hk _ (.inr (.inr (.inr (.inl e))))), fun r hr => (h.each r hr).keep (fun k hm => hk k (.inr (.inr (.inr (.inr ⟨r, hr, hm⟩))))), h.nodup⟩
  rcases h.grp with h0 | ⟨g, off, ha, hg, hc⟩
  · exact .inl h0
  · refine .inr ⟨g, off, ha, Nat.lt_of_lt_of_le hg hz, fun j hj => ?_⟩
    exact (World.cell?_of_block (w := w) (a := ⟨g, off + j, none⟩) (hk g (.inr (.inl ⟨_, ha, rfl⟩)))).trans (hc j hj)
theorem Cli.keep {w w' : World} {b : Nat} {S : CliS} (h : Cli w b S) (hz : w.heap.size ≤ w'.heap.size) (hk : ∀ k, Foot b S k → w'.heap[k]? = w.heap[k]?) : Cli w' b S :=
  ⟨(hk b (.inl rfl)).trans h.box, h.rest.keep hz (fun k hf => hk k (.inr hf))⟩
/-- what is in a part's place. -/
theorem CliRest.foot {w : World} {b : Nat} {S : CliS} (h : CliRest w b S) {k : Nat} (hf : RFoot S k) : k < w.heap.size ∧ ∀ c, w.heap[k]? ≠ some (.cells c 161 (0, 0)) := by
  rcases hf with rfl | ⟨a, ha, rfl⟩ | e | e | ⟨r, hr, hm⟩
  · exact ⟨lt_of_block h.met, fun c hc => by rw [h.met] at hc; simp at hc⟩
  · refine ⟨(h.grpT a ha).1, fun c hc => ?_⟩
    obtain ⟨x, hx⟩ := (h.grpT a ha).2 _ hc
    simp at hx
  · refine ⟨(h.own.lt k e).2, fun c hc => ?_⟩
    rcases h.own.2 with ⟨h0, _⟩ | ⟨g, cap, cur, h0, _, hg, _⟩
    · rw [h0] at e; cases e
    · rw [h0] at e; obtain rfl : g = k := Option.some.inj e; rw [hg] at hc; simp at hc
  · refine ⟨(h.outs.lt k e).2, fun c hc => ?_⟩
    rcases h.outs.2 with ⟨h0, _⟩ | ⟨g, cap, cur, h0, _, hg, _⟩
    · rw [h0] at e; cases e
    · rw [h0] at e; obtain rfl : g = k := Option.some.inj e; rw [hg] at hc; simp at hc
  · obtain ⟨c', t, hc', ht⟩ := (h.each r hr).kind hm
    refine ⟨lt_of_block hc', fun c hc => ?_⟩
    rw [hc'] at hc
    simp only [Option.some.injEq, Obj.cells.injEq] at hc
    rcases ht with e | e | e | e <;> (rw [e] at hc; exact absurd hc.2.1 (by decide))
theorem Cli.ne {w : World} {b : Nat} {S : CliS} (h : Cli w b S) {k : Nat} (hf : RFoot S k) : k ≠ b := fun e => (h.rest.foot hf).2 _ (by rw [e]; exact h.box)
theorem Cli.foot_lt {w : World} {b : Nat} {S : CliS} (h : Cli w b S) {k : Nat} (hf : Foot b S k) : k < w.heap.size := by
  rcases hf with rfl | hf
  · exact lt_of_block h.box
  · exact (h.rest.foot hf).1
theorem Cli.fr {w w' : World} {b : Nat} {S : CliS} {T : Nat → Prop} (h : Cli w b S) (hf : Fr T w w') (hn : ∀ k, Foot b S k → ¬ T k) : Cli w' b S :=
  h.keep hf.size (fun k hk => hf.block k (h.foot_lt hk) (hn k hk))
theorem Cli.grown {w w' : World} {b : Nat} {S : CliS} (h : Cli w b S) (hf : Fr (fun _ => False) w w') : Cli w' b S := h.fr hf (fun _ _ => id)
/-- a store into the client's own cells. -/
theorem Cli.setb {w : World} {b : Nat} {S : CliS} (h : Cli w b S) (i : Nat) (u : Value) : CliRest (w.setCell ⟨b, i, none⟩ u) b S :=
  h.rest.keep (by rw [World.size_setCell]; exact Nat.le_refl _) (fun k hk => Below.heap_setCell _ _ _ _ (h.ne hk))
theorem cliBox_cells (S : CliS) : cliBox S = #[.int .i64 S.cfg.addr, .int .i64 S.cfg.inst, .int .i64 S.cfg.first, .int .i64 S.cfg.window, .int .i64 S.cfg.pace.base, .int .i64 S.cfg.pace.cap, .int .i64 S.cfg.pace.tries, .int .i64 S.cfg.sys.stamp, .string S.cfg.sys.machine, .int .i64 S.cfg.sys.user, .int .i64 S.cfg.sys.group, .slice S.A S.cfg.sys.groups.length S.n, .int .i64 S.next, .int .i64 S.now, S.vc, S.vo, .pointer (some ⟨S.m, 0, none⟩)] := rfl
theorem Cli.setNext {w : World} {b : Nat} {S : CliS} (h : Cli w b S) (x : Int) : Cli (w.setCell ⟨b, 12, none⟩ (.int .i64 x)) b { S with next := x } := by
  refine ⟨(setOf' h.box 12 _).trans rfl, ?_⟩
  obtain ⟨h1, h2, h3, h4, h5, h6, h7⟩ := h.setb 12 (.int .i64 x)
  exact ⟨h1, h2, h3, h4, h5, h6, h7⟩
theorem Cli.setNow {w : World} {b : Nat} {S : CliS} (h : Cli w b S) (x : Int) : Cli (w.setCell ⟨b, 13, none⟩ (.int .i64 x)) b { S with now := x } := by
  refine ⟨(setOf' h.box 13 _).trans rfl, ?_⟩
  obtain ⟨h1, h2, h3, h4, h5, h6, h7⟩ := h.setb 13 (.int .i64 x)
  exact ⟨h1, h2, h3, h4, h5, h6, h7⟩
/-- other calls, laid in another row. -/
theorem Cli.setCalls {w : World} {b : Nat} {S : CliS} (h : Cli w b S) (vc : Value) (l : List CallR) (ho : w.ownsRow 0 228 1 vc l.length (l.map fun r => ptrV r.k)) (he : ∀ r ∈ l, CallAt w b r) (hn : (l.map (·.k)).Nodup) :
    Cli (w.setCell ⟨b, 14, none⟩ vc) b { S with calls := l, vc := vc } := by
  refine ⟨(setOf' h.box 14 _).trans rfl, ?_⟩
  obtain ⟨h1, h2, h3, h4, h5, h6, h7⟩ := h.setb 14 vc
  have nb : ∀ k c t, w.heap[k]? = some (.cells c t (0, 0)) → t ≠ 161 → k ≠ b := fun k c t hk ht e => by
    rw [e, h.box] at hk
    simp only [Option.some.injEq, Obj.cells.injEq] at hk
    exact ht hk.2.1.symm
  refine ⟨h1, h2, h3, ownsRow_keep ho (fun g e => Below.heap_setCell _ _ _ _ ?_), h5, fun r hr => (he r hr).keep (fun k hm => Below.heap_setCell _ _ _ _ ?_), hn⟩
  · rcases ho.2 with ⟨h0, _⟩ | ⟨g', cap, cur, h0, _, hg, _⟩
    · rw [h0] at e; cases e
    · rw [h0] at e; obtain rfl : g' = g := Option.some.inj e; exact nb _ _ _ hg (by decide)
  · obtain ⟨c', t, hc', ht⟩ := (he r hr).kind hm
    exact nb _ _ _ hc' (by rcases ht with e | e | e | e <;> (rw [e]; decide))
theorem Cli.setOuts {w : World} {b : Nat} {S : CliS} (h : Cli w b S) (vo : Value) (l : List OutM) (ho : w.ownsRow 0 146 9 vo l.length (outRow l)) :
    Cli (w.setCell ⟨b, 15, none⟩ vo) b { S with outs := l, vo := vo } := by
  refine ⟨(setOf' h.box 15 _).trans rfl, ?_⟩
  obtain ⟨h1, h2, h3, h4, h5, h6, h7⟩ := h.setb 15 vo
  refine ⟨h1, h2, h3, h4, ownsRow_keep ho (fun g e => Below.heap_setCell _ _ _ _ ?_), h6, h7⟩
  intro e2
  rcases ho.2 with ⟨h0, _⟩ | ⟨g', cap, cur, h0, _, hg, _⟩
  · rw [h0] at e; cases e
  · rw [h0] at e
    obtain rfl : g' = g := Option.some.inj e
    rw [e2, h.box] at hg
    simp at hg
/-- what is in none of the client's rows of calls. -/
theorem CliRest.vc_ne {w : World} {b : Nat} {S : CliS} (h : CliRest w b S) {k : Nat} {c : Array Value} {t : Nat} (hk : w.heap[k]? = some (.cells c t (0, 0))) (ht : t ≠ 228) : S.vc.ownBlock ≠ some k := fun e => by
  rcases h.own.2 with ⟨h0, _⟩ | ⟨g, cap, cur, h0, _, hg, _⟩
  · rw [h0] at e; cases e
  · rw [h0] at e
    obtain rfl : g = k := Option.some.inj e
    rw [hg] at hk
    simp only [Option.some.injEq, Obj.cells.injEq] at hk
    exact ht hk.2.1.symm
/-- what a client stands on, but its calls and its own block. -/
def QFoot (S : CliS) (k : Nat) : Prop := k = S.m ∨ (∃ a, S.A = some a ∧ k = a.block) ∨ S.vo.ownBlock = some k
theorem CliRest.q_ne {w : World} {b : Nat} {S : CliS} (h : CliRest w b S) {k : Nat} (hk : QFoot S k) : S.vc.ownBlock ≠ some k := by
  rcases hk with rfl | ⟨a, ha, rfl⟩ | e
  · exact h.vc_ne h.met (by decide)
  · intro e
    rcases h.own.2 with ⟨h0, _⟩ | ⟨g, cap, cur, h0, _, hg, _⟩
    · rw [h0] at e; cases e
    · rw [h0] at e
      have e : g = a.block := Option.some.inj e
      rw [e] at hg
      obtain ⟨x, hx⟩ := (h.grpT a ha).2 _ hg
      simp at hx
  · rcases h.outs.2 with ⟨h0, _⟩ | ⟨g, cap, cur, h0, _, hg, _⟩
    · rw [h0] at e; cases e
    · rw [h0] at e
      obtain rfl : g = k := Option.some.inj e
      exact h.vc_ne hg (by decide)
theorem CliRest.q_foot {S : CliS} {k : Nat} (hk : QFoot S k) : RFoot S k := by
  rcases hk with h | h | h
  · exact .inl h
  · exact .inr (.inl h)
  · exact .inr (.inr (.inr (.inl h)))
/-- the row of calls was written, or is another one. -/
theorem Cli.moved {w w9 : World} {b : Nat} {S : CliS} (h : Cli w b S) (hz : w.heap.size ≤ w9.heap.size) (hk : ∀ k, k = b ∨ QFoot S k → w9.heap[k]? = w.heap[k]?) (vc : Value) (l : List CallR)
    (ho : w9.ownsRow 0 228 1 vc l.length (l.map fun r => ptrV r.k)) (he : ∀ r ∈ l, CallAt w9 b r) (hn : (l.map (·.k)).Nodup) :
    Cli (w9.setCell ⟨b, 14, none⟩ vc) b { S with calls := l, vc := vc } := by
  have hb9 : w9.heap[b]? = some (.cells (cliBox S) 161 (0, 0)) := (hk b (.inl rfl)).trans h.box
  have hq : ∀ k, QFoot S k → (w9.setCell ⟨b, 14, none⟩ vc).heap[k]? = w.heap[k]? := fun k hf => (Below.heap_setCell _ _ _ _ (h.ne (CliRest.q_foot hf))).trans (hk k (.inr hf))
  have hs : w.heap.size ≤ (w9.setCell ⟨b, 14, none⟩ vc).heap.size := by rw [World.size_setCell]; exact hz
  have nb : ∀ k c t, w9.heap[k]? = some (.cells c t (0, 0)) → t ≠ 161 → k ≠ b := fun k c t hk ht e => by
    rw [e, hb9] at hk
    simp only [Option.some.injEq, Obj.cells.injEq] at hk
    exact ht hk.2.1.symm
  refine ⟨(setOf' hb9 14 _).trans rfl, (hq _ (.inl rfl)).trans h.rest.met, ?_, fun a ha => ⟨Nat.lt_of_lt_of_le (h.rest.grpT a ha).1 hs, fun c hc => (h.rest.grpT a ha).2 c (by rw [← hq _ (.inr (.inl ⟨a, ha, rfl⟩))]; exact hc)⟩,
    ownsRow_keep ho (fun g e => Below.heap_setCell _ _ _ _ ?_), ownsRow_keep h.rest.outs (fun g e => hq _ (.inr (.inr e))), fun r hr => (he r hr).keep (fun k hm => Below.heap_setCell _ _ _ _ ?_), hn⟩
  · rcases h.rest.grp with h0 | ⟨g, off, ha, hg, hc⟩
    · exact .inl h0
    · refine .inr ⟨g, off, ha, Nat.lt_of_lt_of_le hg hs, fun j hj => ?_⟩
      exact (World.cell?_of_block (w := w) (a := ⟨g, off + j, none⟩) (hq g (.inr (.inl ⟨_, ha, rfl⟩)))).trans (hc j hj)
  · rcases ho.2 with ⟨h0, _⟩ | ⟨g', cap, cur, h0, _, hg, _⟩
    · rw [h0] at e; cases e
    · rw [h0] at e; obtain rfl : g' = g := Option.some.inj e; exact nb _ _ _ hg (by decide)
  · obtain ⟨c', t, hc', ht⟩ := (he r hr).kind hm
    exact nb _ _ _ hc' (by rcases ht with e | e | e | e <;> (rw [e]; decide))
end Go.Proofs.YtbegjpmifcnieaaGreatDoor

/- A client: Water, Now, and how many sendings of a call are due. -/
namespace Go.Proofs.YtbegjpmifcnieaaGreatDoor
open Go.RowKit
set_option linter.unusedVariables false
set_option linter.unusedSimpArgs false

def waterM (S : CliS) : Int := match S.calls with | [] => S.next | r :: _ => r.seq

theorem Cli.c12 {w : World} {b : Nat} {S : CliS} (h : Cli w b S) : w.cell? ⟨b, 12, none⟩ = some (.int .i64 S.next) := cellOf h.box 12
theorem Cli.c13 {w : World} {b : Nat} {S : CliS} (h : Cli w b S) : w.cell? ⟨b, 13, none⟩ = some (.int .i64 S.now) := cellOf h.box 13
theorem Cli.c14 {w : World} {b : Nat} {S : CliS} (h : Cli w b S) : w.cell? ⟨b, 14, none⟩ = some S.vc := cellOf h.box 14
theorem Cli.c15 {w : World} {b : Nat} {S : CliS} (h : Cli w b S) : w.cell? ⟨b, 15, none⟩ = some S.vo := cellOf h.box 15
/-- the row of calls, at a place. -/
theorem Cli.row {w : World} {b : Nat} {S : CliS} (h : Cli w b S) : ∃ A c, S.vc = .slice A S.calls.length c ∧ (S.calls = [] ∨ ∃ g, A = some ⟨g, 0, none⟩ ∧ ∀ j (hj : j < S.calls.length), w.cell? ⟨g, j, none⟩ = some (.pointer (some ⟨(S.calls[j]).k, 0, none⟩))) := by
  obtain ⟨A, c, e⟩ := owns_slice h.rest.own
  refine ⟨A, c, e, ?_⟩
  rcases h.rest.own.2 with ⟨h0, h1⟩ | ⟨g, cap, cur, h0, _⟩
  · exact .inl (List.length_eq_zero_iff.1 h1)
  · right
    have ho := h.rest.own
    rw [e] at h0
    injection h0 with h0
    refine ⟨g, h0, fun j hj => ?_⟩
    exact row_cell ho (by rw [e, h0]; rfl) j _ (by rw [List.getElem?_map, List.getElem?_eq_getElem hj]; rfl)

theorem Now_any {w : World} {b : Nat} {S : CliS} (h : Cli w b S) : Calls Tryz.prog 54 #[.pointer (some ⟨b, 0, none⟩)] w fun r w' => r = .returned (.int .i64 S.now) ∧ w' = w := by
  have n13 := h.c13
  clear h
  go_enter Tryz.func54, Tryz.ntmps54
  go_wp2
  go_ret
  exact ⟨rfl, rfl⟩

theorem Water_any {w : World} {b : Nat} {S : CliS} (h : Cli w b S) : Calls Tryz.prog 53 #[.pointer (some ⟨b, 0, none⟩)] w fun r w' => r = .returned (.int .i64 (waterM S)) ∧ w' = w := by
  have n12 := h.c12
  have n14 := h.c14
  obtain ⟨A, c, e, hr⟩ := h.row
  rw [e] at n14
  cases hc : S.calls with
  | nil =>
    have ew : waterM S = S.next := by unfold waterM; rw [hc]
    rw [ew]
    rw [hc] at n14
    clear h hr ew
    go_enter Tryz.func53, Tryz.ntmps53
    go_wp2
    go_ret
    exact ⟨rfl, rfl⟩
  | cons r l =>
    have ew : waterM S = r.seq := by unfold waterM; rw [hc]
    rw [ew]
    have hx := (h.rest.each r (by rw [hc]; exact List.mem_cons_self)).box
    rcases hr with h0 | ⟨g, rfl, hj⟩
    · rw [h0] at hc; cases hc
    have h0 := hj 0 (by rw [hc]; simp)
    have e0 : (S.calls[0]'(by rw [hc]; simp)) = r := by simp [hc]
    rw [e0] at h0
    have hs : w.cell? ⟨r.k, 0, none⟩ = some (.int .i64 r.seq) := cellOf hx 0
    rw [hc, List.length_cons] at n14
    have hpos : (0 : Int) < ((l.length + 1 : Nat) : Int) := by omega
    clear h hj hx e0 ew n12
    generalize l.length + 1 = m at *
    go_enter Tryz.func53, Tryz.ntmps53
    go_wp2
    go_ret
    exact ⟨rfl, rfl⟩

/-- how many sendings are due: up to the first that is not. -/
def dueFrom (p : PaceM) (iss now : Int) (k : Nat) : Nat → Int
  | 0 => k
  | d + 1 => if iss + sumN p k > now then k else dueFrom p iss now (k + 1) d
def dueM (p : PaceM) (iss now : Int) : Int := dueFrom p iss now 0 p.tries.toNat
theorem dueFrom_le (p : PaceM) (iss now : Int) : ∀ (d k : Nat), (k : Int) ≤ dueFrom p iss now k d ∧ dueFrom p iss now k d ≤ k + d := by
  intro d
  induction d with
  | zero => intro k; simp [dueFrom]
  | succ d ih =>
    intro k
    simp only [dueFrom]
    split
    · omega
    · have := ih (k + 1); omega

set_option maxRecDepth 100000 in
set_option maxHeartbeats 1000000 in
theorem due_any {w : World} {b : Nat} {S : CliS} (h : Cli w b S) (r : CallR) (hr : CallAt w b r) (hp : Right S.cfg.pace) (hi : 0 ≤ r.iss) (hi2 : r.iss ≤ 4611686018427387904) :
    Calls Tryz.prog 128 #[.pointer (some ⟨b, 0, none⟩), .pointer (some ⟨r.k, 0, none⟩)] w fun e w' => e = .returned (.int .i64 (dueM S.cfg.pace r.iss S.now)) ∧ Fr (fun _ => False) w w' := by
  have hiss : w.cell? ⟨r.k, 2, none⟩ = some (.int .i64 r.iss) := cellOf hr.box 2
  have htr : w.cell? ⟨b, 6, none⟩ = some (.int .i64 S.cfg.pace.tries) := cellOf h.box 6
  have HB := Lib.hid h.box
  have HW := Lib.hid (Wait_any S.cfg.pace)
  have HE := Lib.hid (fun n : Int => (show waitM S.cfg.pace n = waitN S.cfg.pace n.toNat by unfold waitM; rw [if_pos ((right_iff _).2 hp)]))
  have HH := Lib.hid hp
  have t1 := hp.t1
  have t2 := hp.t2
  rw [cliBox_cells] at HB
  unfold dueM
  clear hr h hp
  generalize hres : dueFrom S.cfg.pace r.iss S.now 0 S.cfg.pace.tries.toNat = res
  have HN : Hid (res = dueFrom S.cfg.pace r.iss S.now 0 (S.cfg.pace.tries.toNat - 0)) := Lib.hid hres.symm
  clear hres
  unfold paceV at *
  go_enter Tryz.func128, Tryz.ntmps128
  go_wp2
  go_loopw [5, 6, 17] (fun at' n i wr => ∃ k : Nat, (k : Int) ≤ S.cfg.pace.tries ∧ i = .int .i64 k ∧ at' = .int .i64 (r.iss + sumN S.cfg.pace k) ∧ (∃ m : Value, n = m) ∧ Hid (Fr (fun _ => False) w wr) ∧ Hid (res = dueFrom S.cfg.pace r.iss S.now k (S.cfg.pace.tries.toNat - k))) (fun _ _ i _ => S.cfg.pace.tries.toNat - (intOf i).toNat)
  case atStart => exact ⟨0, by omega, rfl, by simp [sumN], ⟨_, rfl⟩, Lib.hid (Fr.refl _ _), HN⟩
  case round =>
    obtain ⟨k, hk, rfl, rfl, ⟨m, rfl⟩, hf, hn⟩ := hrel
    clear HN
    have hx := Lib.hid ((hf.out.block _ (lt_of_block HB.out) id).trans HB.out)
    have k4 := cellOf hx.out 4
    have k5 := cellOf hx.out 5
    have k6 := cellOf hx.out 6
    have k13 := cellOf hx.out 13
    have ⟨s0, s1⟩ := sumN_bounds HH.out k
    have ⟨u0, u1⟩ := waitN_bounds HH.out k
    have u2 := HH.out.c2
    have hS : Hid (sumN S.cfg.pace (k + 1) = sumN S.cfg.pace k + waitN S.cfg.pace k) := Lib.hid rfl
    have hW : Hid (waitM S.cfg.pace (k : Int) = waitN S.cfg.pace k) := Lib.hid (HE.out k)
    by_cases hlt : (k : Int) < S.cfg.pace.tries
    · have hd : Hid (res = if r.iss + sumN S.cfg.pace k > S.now then (k : Int) else dueFrom S.cfg.pace r.iss S.now (k + 1) (S.cfg.pace.tries.toNat - (k + 1))) := Lib.hid (by
        rw [hn.out, show S.cfg.pace.tries.toNat - k = (S.cfg.pace.tries.toNat - (k + 1)) + 1 by omega]; rfl)
      clear hn
      have HC := Lib.hid (HW.out (k : Int))
      rw [hW.out] at HC
      generalize waitN S.cfg.pace k = x at u0 u1 hS HC
      generalize sumN S.cfg.pace k = s at s0 s1 hS hd
      clear HW hW HE
      by_cases hgt : r.iss + s > S.now
      · have e := hd.out
        rw [if_pos hgt] at e
        subst e
        clear hd
        go_wp2_with fail
        go_ret
        exact ⟨rfl, hf.out⟩
      · have hd2 := Lib.hid (hd.out.trans (if_neg hgt))
        clear hd
        have hgt := Int.not_lt.1 hgt
        go_wp2_with (go_at_call 163; refine (HC.out _).mono ?_; rintro e w2 ⟨rfl, hf2⟩)
        exact ⟨⟨k + 1, by omega, by go_num, by rw [hS.out]; go_num, ⟨_, rfl⟩, Lib.hid (hf.out.trans hf2), hd2⟩, by simp [intOf]; omega⟩
    · have e : res = (k : Int) := by rw [hn.out, show S.cfg.pace.tries.toNat - k = 0 by omega]; rfl
      have e2 : (k : Int) = S.cfg.pace.tries := by omega
      subst e
      clear hS hW HE HW hn s0 s1
      have E2 := Lib.hid e2
      clear e2
      go_wp2_with fail
      go_ret
      exact ⟨by rw [E2.out]; rfl, hf.out⟩
end Go.Proofs.YtbegjpmifcnieaaGreatDoor
