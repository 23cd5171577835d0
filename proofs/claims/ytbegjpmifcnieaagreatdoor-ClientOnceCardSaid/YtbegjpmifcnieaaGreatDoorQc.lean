/- A client: its meter; which call a reply is for; what a reply makes of a call. No program is walked here. -/
import Derived.Test.YtbegjpmifcnieaaGreatDoorQa
import Derived.Test.YtbegjpmifcnieaaGreatDoorEm
import Derived.Test.YtbegjpmifcnieaaGreatDoorNa
import Derived.Shelf.SlicesE.DeleteFunc
import Derived.Test.YtbegjpmifcnieaaGreatDoorPr
import Derived.StillTailTactics
import Derived.IntWalk
namespace Go.Proofs.YtbegjpmifcnieaaGreatDoor
open Go.RowKit
set_option linter.unusedVariables false
set_option linter.unusedSimpArgs false

def CliS.met (S : CliS) : MetM := ⟨S.heard, S.mean, S.spread⟩
def CliS.setMet (S : CliS) (m : MetM) : CliS := { S with heard := m.heard, mean := m.mean, spread := m.spread }
theorem CliS.set_met (S : CliS) : S.setMet S.met = S := rfl
/-- the meter was written. -/
theorem Cli.metered {w w' : World} {b : Nat} {S : CliS} (h : Cli w b S) (hf : Fr (fun k => k = S.m) w w') (m : MetM) (hm : w'.heap[S.m]? = some (.cells #[.bool m.heard, .float .f32 m.mean, .float .f32 m.spread] 254 (0, 0))) : Cli w' b (S.setMet m) := by
  have ne : ∀ (k : Nat) (c : Array Value) (t : Nat), w.heap[k]? = some (.cells c t (0, 0)) → t ≠ 254 → w'.heap[k]? = w.heap[k]? := fun k c t hk ht => hf.block _ (lt_of_block hk) (fun e => by
    rw [e, h.rest.met] at hk
    simp only [Option.some.injEq, Obj.cells.injEq] at hk
    exact ht hk.2.1.symm)
  have hA : ∀ a, S.A = some a → w'.heap[a.block]? = w.heap[a.block]? := fun a ha => by
    obtain ⟨o, hx⟩ : ∃ o, w.heap[a.block]? = some o := ⟨_, Array.getElem?_eq_getElem (h.rest.grpT a ha).1⟩
    obtain ⟨x, rfl⟩ := (h.rest.grpT a ha).2 _ hx
    exact ne _ _ _ hx (by decide)
  refine ⟨(ne _ _ _ h.box (by decide)).trans h.box, hm, ?_, fun a ha => ⟨Nat.lt_of_lt_of_le (h.rest.grpT a ha).1 hf.size, fun c hc => (h.rest.grpT a ha).2 c (by rw [← hA a ha]; exact hc)⟩,
    ownsRow_keep h.rest.own (fun g e => ?_), ownsRow_keep h.rest.outs (fun g e => ?_), fun r hr => (h.rest.each r hr).keep (fun k hm => ?_), h.rest.nodup⟩
  · rcases h.rest.grp with h0 | ⟨g, off, ha, hg, hc⟩
    · exact .inl h0
    · exact .inr ⟨g, off, ha, Nat.lt_of_lt_of_le hg hf.size, fun j hj => (World.cell?_of_block (w := w) (a := ⟨g, off + j, none⟩) (hA ⟨g, off, none⟩ ha)).trans (hc j hj)⟩
  · have e : S.vc.ownBlock = some g := e
    rcases h.rest.own.2 with ⟨h0, _⟩ | ⟨g', cap, cur, h0, _, hg, _⟩
    · rw [h0] at e; cases e
    · rw [h0] at e; obtain rfl : g' = g := Option.some.inj e; exact ne _ _ _ hg (by decide)
  · have e : S.vo.ownBlock = some g := e
    rcases h.rest.outs.2 with ⟨h0, _⟩ | ⟨g', cap, cur, h0, _, hg, _⟩
    · rw [h0] at e; cases e
    · rw [h0] at e; obtain rfl : g' = g := Option.some.inj e; exact ne _ _ _ hg (by decide)
  · obtain ⟨c', t, hc', ht⟩ := (h.rest.each r hr).kind hm
    exact ne _ _ _ hc' (by rcases ht with e | e | e | e <;> (rw [e]; decide))

/-- what a reply makes of a call. -/
def outcomeM (r : ReplyM) : OutM :=
  if r.denied = true then ⟨0, 5, 0, r.reject, r.why, r.low, r.high, ByteArray.empty, 0⟩
  else if r.accept = 0 then ⟨0, 1, 0, 0, 0, 0, 0, r.results, 0⟩
  else if r.accept = 5 then ⟨0, 3, 0, 0, 0, 0, 0, ByteArray.empty, 0⟩
  else ⟨0, 4, r.accept, 0, 0, r.low, r.high, ByteArray.empty, 0⟩

/-- the place of the first call of this number to this address. -/
def forB (xid src : Int) (r : CallR) : Bool := r.seq == xid && r.dst == src
/-- where it stands. -/
theorem find_split {α : Type} (p : α → Bool) (l : List α) : (l.find? p = none ∧ ∀ q ∈ l, p q = false) ∨ ∃ (k : Nat) (hk : k < l.length), l.find? p = some l[k] ∧ p l[k] = true ∧ ∀ j (hj : j < k), p (l[j]'(by omega)) = false := by
  induction l with
  | nil => exact .inl ⟨rfl, fun q hq => by cases hq⟩
  | cons a l ih =>
    by_cases ha : p a = true
    · right
      refine ⟨0, by simp, ?_, by simpa using ha, fun j hj => by omega⟩
      rw [List.find?_cons_of_pos ha]; rfl
    · rw [Bool.not_eq_true] at ha
      rw [List.find?_cons_of_neg (by rw [ha]; decide)]
      rcases ih with ⟨h1, h2⟩ | ⟨k, hk, h1, h2, h3⟩
      · left
        refine ⟨h1, fun q hq => ?_⟩
        rcases List.mem_cons.1 hq with rfl | hq
        · exact ha
        · exact h2 q hq
      · right
        refine ⟨k + 1, by simpa using hk, by simpa using h1, by simpa using h2, fun j hj => ?_⟩
        cases j with
        | zero => simpa using ha
        | succ j => simpa using h3 j (by omega)
def hearR (S : CliS) (src dst xid e : Int) : Option CallR := if dst = S.cfg.addr ∧ e = 0 then S.calls.find? (forB xid src) else none
def metS (S : CliS) (r : CallR) : CliS := if r.given = 1 then S.setMet (S.met.hear (S.now - r.first)) else S
theorem metS_same (S : CliS) (r : CallR) : (metS S r).calls = S.calls ∧ (metS S r).cfg = S.cfg ∧ (metS S r).next = S.next ∧ (metS S r).now = S.now ∧ (metS S r).outs = S.outs ∧ (metS S r).vc = S.vc ∧ (metS S r).vo = S.vo ∧ (metS S r).m = S.m ∧ (metS S r).A = S.A ∧ (metS S r).n = S.n := by
  unfold metS
  split <;> exact ⟨rfl, rfl, rfl, rfl, rfl, rfl, rfl, rfl, rfl, rfl⟩
/-- behind the reply. -/
def heardS (S : CliS) (r : CallR) (o : OutM) (vc vo : Value) : CliS := { metS S r with calls := keepCalls S r.k, vc := vc, outs := S.outs ++ [outOf S r o], vo := vo }
theorem heard_met (S : CliS) (r : CallR) (o : OutM) (vc vo : Value) (hm : S.met.Ok) : (heardS S r o vc vo).met.Ok := by
  show (metS S r).met.Ok
  unfold metS
  split
  · by_cases h : S.heard = true
    · obtain ⟨_, _, _, _, _, _, _, _, _, _, _, _, _, _, h1⟩ := MetM.hear_next (S.now - r.first) (m := S.met) h hm
      exact h1
    · obtain ⟨_, _, _, h1⟩ := MetM.hear_first (S.now - r.first) (m := S.met) (show S.heard = false by simpa using h)
      exact h1
  · exact hm
end Go.Proofs.YtbegjpmifcnieaaGreatDoor

/- A client: what a reply makes of a call; which call it is for; Guess. -/
namespace Go.Proofs.YtbegjpmifcnieaaGreatDoor
open Go.RowKit Go.Lib Go.Sort Go.Shelf
set_option linter.unusedVariables false
set_option linter.unusedSimpArgs false

def outV (o : OutM) : Value := .agg #[.int .i64 o.seq, .int .i64 o.status, .int .i64 o.accept, .int .i64 o.reject, .int .i64 o.why, .int .i64 o.low, .int .i64 o.high, .string o.results, .int .i64 o.at']

set_option maxRecDepth 100000 in
set_option maxHeartbeats 4000000 in
theorem outcome_any (r : ReplyM) (w : World) : Calls Tryz.prog 157 #[.agg (replyCells r)] w fun e w' => e = .returned (outV (outcomeM r)) ∧ Fr (fun _ => False) w w' := by
  unfold replyCells outcomeM
  by_cases h1 : r.denied = true
  · rw [if_pos h1, h1]
    go_enter Tryz.func157, Tryz.ntmps157
    go_wp2_with fail
    exact bodyPost_ret (results_cell_row rfl _ _ _ _ _ _ _ rfl heap_two Tryz.underlying146 rfl (by kernel_rfl)) rfl ⟨rfl, ((Fr.refl _ _).alloc _).alloc _⟩
  · rw [if_neg h1]
    rw [Bool.not_eq_true] at h1
    rw [h1]
    by_cases h2 : r.accept = 0
    · rw [if_pos h2, h2]
      go_enter Tryz.func157, Tryz.ntmps157
      go_wp2_with fail
      exact bodyPost_ret (results_cell_row rfl _ _ _ _ _ _ _ rfl heap_two Tryz.underlying146 rfl (by kernel_rfl)) rfl ⟨rfl, ((Fr.refl _ _).alloc _).alloc _⟩
    · rw [if_neg h2]
      by_cases h3 : r.accept = 5
      · rw [if_pos h3, h3]
        go_enter Tryz.func157, Tryz.ntmps157
        go_wp2_with fail
        exact bodyPost_ret (results_cell_row rfl _ _ _ _ _ _ _ rfl heap_two Tryz.underlying146 rfl (by kernel_rfl)) rfl ⟨rfl, ((Fr.refl _ _).alloc _).alloc _⟩
      · rw [if_neg h3]
        have h2 : (r.accept == 0) = false := beq_eq_false_iff_ne.2 h2
        have h3 : (r.accept == 5) = false := beq_eq_false_iff_ne.2 h3
        go_enter Tryz.func157, Tryz.ntmps157
        go_wp2_with fail
        exact bodyPost_ret (results_cell_row rfl _ _ _ _ _ _ _ rfl heap_two Tryz.underlying146 rfl (by kernel_rfl)) rfl ⟨rfl, ((Fr.refl _ _).alloc _).alloc _⟩

/-- is a call the one? Asked of a block that is there. -/
theorem hear1_gives {S : CliS} {w : World} {b : Nat} (h : Cli w b S) (R K : Nat) (xid src : Int) (W : World) (hb : Below w.heap.size w W) (hR : w.cell? ⟨R, 0, none⟩ = some (.int .i64 xid)) (hK : w.cell? ⟨K, 0, none⟩ = some (.int .i64 src)) (r : CallR) (hr : r ∈ S.calls) :
    FnGives Tryz.prog 155 #[.pointer (some ⟨R, 0, none⟩), .pointer (some ⟨K, 0, none⟩)] #[ptrV r.k] (.bool (forB xid src r)) W := by
  show Calls Tryz.prog 155 #[.pointer (some ⟨r.k, 0, none⟩), .pointer (some ⟨R, 0, none⟩), .pointer (some ⟨K, 0, none⟩)] W _
  have hx := (h.rest.each r hr).box
  have hx2 := (hb.block r.k (lt_of_block hx)).trans hx
  have c0 : W.cell? ⟨r.k, 0, none⟩ = some (.int .i64 r.seq) := cellOf hx2 0
  have c1 : W.cell? ⟨r.k, 1, none⟩ = some (.int .i64 r.dst) := cellOf hx2 1
  have e0 : W.cell? ⟨R, 0, none⟩ = some (.int .i64 xid) := (hb.cell (p := ⟨R, 0, none⟩) (World.block_lt_of_cell? _ _ hR)).trans hR
  have e1 : W.cell? ⟨K, 0, none⟩ = some (.int .i64 src) := (hb.cell (p := ⟨K, 0, none⟩) (World.block_lt_of_cell? _ _ hK)).trans hK
  clear h hx hx2 hb hR hK hr
  unfold forB
  by_cases q1 : r.seq = xid
  · by_cases q2 : r.dst = src
    · have p1 : (r.seq == xid) = true := beq_iff_eq.2 q1
      have p2 : (r.dst == src) = true := beq_iff_eq.2 q2
      rw [p1, p2]
      go_enter Tryz.func155, Tryz.ntmps155
      go_wp2_with fail
      go_quiet (fail)
      go_wp2
      go_ret
      exact ⟨rfl, _, rfl⟩
    · have p1 : (r.seq == xid) = true := beq_iff_eq.2 q1
      have p2 : (r.dst == src) = false := beq_eq_false_iff_ne.2 q2
      rw [p1, p2]
      go_enter Tryz.func155, Tryz.ntmps155
      go_wp2_with fail
      go_quiet (fail)
      go_wp2
      go_ret
      exact ⟨rfl, _, rfl⟩
  · have p1 : (r.seq == xid) = false := beq_eq_false_iff_ne.2 q1
    rw [p1, Bool.false_and]
    go_enter Tryz.func155, Tryz.ntmps155
    go_wp2_with fail
    go_quiet (fail)
    go_wp2
    go_ret
    exact ⟨rfl, _, rfl⟩
end Go.Proofs.YtbegjpmifcnieaaGreatDoor

/- A client: Hear. -/
namespace Go.Proofs.YtbegjpmifcnieaaGreatDoor
open Go.RowKit Go.Lib Go.Sort Go.Shelf
set_option linter.unusedVariables false
set_option linter.unusedSimpArgs false

/-- the place of a call in the row. -/
theorem idx_gives {w : World} {b : Nat} {S : CliS} (h : Cli w b S) (R K : Nat) (xid src : Int) (hR : w.cell? ⟨R, 0, none⟩ = some (.int .i64 xid)) (hK : w.cell? ⟨K, 0, none⟩ = some (.int .i64 src)) (hl : S.calls.length ≤ 1099511627776) (n : Int)
    (hn : (S.calls.find? (forB xid src) = none ∧ n = -1) ∨ ∃ (k : Nat) (hk : k < S.calls.length), n = k ∧ forB xid src S.calls[k] = true ∧ ∀ j (hj : j < k), forB xid src (S.calls[j]'(by omega)) = false) :
    Calls Tryz.prog 154 #[S.vc, .func (.func 155) #[] #[.pointer (some ⟨R, 0, none⟩), .pointer (some ⟨K, 0, none⟩)]] w fun e w' => e = .returned (.int .i64 n) ∧ ∃ q, w' = w.drewN q := by
  rcases h.rest.own.2 with ⟨h0, h1⟩ | ⟨g, cap, cur, h0, h1, h2, h3, h4, h5, h6⟩
  · have hc : S.calls = [] := List.length_eq_zero_iff.1 h1
    rw [h0]
    have en : n = -1 := by
      rcases hn with ⟨_, e⟩ | ⟨k, hk, _⟩
      · exact e
      · rw [hc] at hk; simp at hk
    rw [en]
    refine Calls.mono (show Calls Tryz.prog 154 _ _ _ from AnyE.slices_IndexFunc_empty { Tryz.laysDelP with } none 0 _ w) ?_
    rintro e w' ⟨rfl, rfl⟩
    exact ⟨rfl, 0, rfl⟩
  · by_cases hc : S.calls = []
    · rw [h0, hc]
      have en : n = -1 := by
        rcases hn with ⟨_, e⟩ | ⟨k, hk, _⟩
        · exact e
        · rw [hc] at hk; simp at hk
      rw [en]
      refine Calls.mono (show Calls Tryz.prog 154 _ _ _ from AnyE.slices_IndexFunc_empty { Tryz.laysDelP with } (some ⟨g, 0, none⟩) cap _ w) ?_
      rintro e w' ⟨rfl, rfl⟩
      exact ⟨rfl, 0, rfl⟩
    · obtain ⟨r0, hr0⟩ : ∃ r0, r0 ∈ S.calls := by
        cases hcl : S.calls with
        | nil => exact absurd hcl hc
        | cons a l => exact ⟨a, by simp⟩
      haveI : Inhabited { r : CallR // r ∈ S.calls } := ⟨⟨r0, hr0⟩⟩
      have hpos : 0 < S.calls.length := List.length_pos_of_mem hr0
      have ho := h.rest.own
      have hget : ∀ j (hj : j < S.calls.length), S.calls.attach[j]! = ⟨S.calls[j], List.getElem_mem hj⟩ := fun j hj => by
        rw [getElem!_pos S.calls.attach j (by simpa using hj), List.getElem_attach]
      have hcon := AnyE.slices_IndexFunc (P := Tryz.prog) (ρ := Tryz.laysDelP_ren) (α := { r : CallR // r ∈ S.calls }) { Tryz.laysDelP with } (fun x => ptrV x.1.k) (fun x => forB xid src x.1) 155 #[.pointer (some ⟨R, 0, none⟩), .pointer (some ⟨K, 0, none⟩)]
        (enters_of Tryz.func155 (by kernel_rfl) rfl) g 0 S.calls.length cap S.calls.attach w (fun W x hb => hear1_gives h R K xid src W hb hR hK x.1 x.2) (by simp) (by omega) (fun j hj => by
          have hj' : j < S.calls.length := by simpa using hj
          rw [hget j hj', Nat.zero_add]
          rw [h0] at ho
          exact row_cell ho rfl j _ (by rw [List.getElem?_map, List.getElem?_eq_getElem hj']; rfl))
      rw [h0]
      refine Calls.mono (show Calls Tryz.prog 154 _ _ _ from hcon) ?_
      rintro e w' ⟨rfl, hq⟩
      refine ⟨?_, hq⟩
      congr 2
      rcases hn with ⟨hnone, rfl⟩ | ⟨k, hk, rfl, hit, miss⟩
      · rw [List.take_of_length_le (by simp)]
        refine Lib.idxByFrom_miss _ _ _ 0 (fun j hj => ?_)
        have hj' : j < S.calls.length := by simpa using hj
        rw [hget j hj']
        rw [List.find?_eq_none] at hnone
        have := hnone _ (List.getElem_mem hj')
        simpa using this
      · refine Lib.idxBy_hit _ S.calls.attach S.calls.length k default hk (by simp) (by rw [hget k hk]; exact hit) (fun j hj => ?_)
        rw [hget j (by omega)]
        exact miss j hj

set_option maxRecDepth 100000 in
set_option maxHeartbeats 4000000 in
theorem Hear_none {w : World} {b : Nat} {S : CliS} (h : Cli w b S) (hg : ErrT w) (hl : S.calls.length ≤ 1099511627776) (src dst : Int) (data : ByteArray) (hs : data.size ≤ 140737488351232)
    (hno : hearR S src dst (parseReplyM data).1.xid (parseReplyM data).2 = none) :
    Calls Tryz.prog 82 #[.pointer (some ⟨b, 0, none⟩), .agg #[.int .i64 src, .int .i64 dst, .string data]] w fun e w' => e = .returned (.int .i64 0) ∧ Fr (fun _ => False) w w' := by
  have hR := Lib.hid (fun w' (hf : Fr (fun _ => False) w w') => ParseReply_any data w' (hg.fr hf id) hs)
  have HN := Lib.hid hno
  have HH := Lib.hid h
  have HL := Lib.hid hl
  have hk0 := Lib.hid (heap_alloc_new w (.cells #[.int .i64 src, .int .i64 dst, .string data] 118))
  have hf0 : Fr (fun _ => False) w (w.alloc (.cells #[.int .i64 src, .int .i64 dst, .string data] 118)) := (Fr.refl _ w).alloc _
  have HF0 := Lib.hid hf0
  clear h hg hl hno hs
  generalize parseReplyM data = pr at hR HN
  obtain ⟨rep, er⟩ := pr
  obtain ⟨n, hn⟩ : ∃ n : Int, (S.calls.find? (forB rep.xid src) = none ∧ n = -1) ∨ ∃ (k : Nat) (hk : k < S.calls.length), n = k ∧ forB rep.xid src S.calls[k] = true ∧ ∀ j (hj : j < k), forB rep.xid src (S.calls[j]'(by omega)) = false := by
    rcases find_split (forB rep.xid src) S.calls with ⟨h1, _⟩ | ⟨k, hk, _, h2, h3⟩
    · exact ⟨-1, .inl ⟨h1, rfl⟩⟩
    · exact ⟨k, .inr ⟨k, hk, rfl, h2, h3⟩⟩
  have Hn := Lib.hid hn
  clear hn
  go_enter Tryz.func82, Tryz.ntmps82
  go_wp2_with fail
  refine (hR.out _ HF0.out).mono ?_
  rintro e w2 ⟨rfl, hf2⟩
  have HK2 := blockMove hk0 hf2 id
  have HF2 := Lib.hid (HF0.out.trans hf2)
  have hc2 := HH.out.grown (HF0.out.trans hf2)
  have HC2 := Lib.hid hc2
  have m14 : ∀ A, (w2.alloc A).cell? ⟨b, 14, none⟩ = some S.vc := fun A => Lib.cell?_alloc_some _ hc2.c14
  have hzz := Lib.hid (lt_of_block HK2.out)
  clear hR hf2 hf0 HF0 hk0 hc2
  unfold replyCells
  go_wp2_with fail
  clear m14
  have hf3 : Fr (fun _ => False) w2 (w2.alloc (.cells #[.int .i64 rep.xid, .bool rep.denied, .int .i64 rep.verf.flavor, .string rep.verf.body, .int .i64 rep.accept, .int .i64 rep.reject, .int .i64 rep.why, .int .i64 rep.low, .int .i64 rep.high, .string rep.results] 45)) := (Fr.refl _ _).alloc _
  have hr3 := heap_alloc_new w2 (.cells #[.int .i64 rep.xid, .bool rep.denied, .int .i64 rep.verf.flavor, .string rep.verf.body, .int .i64 rep.accept, .int .i64 rep.reject, .int .i64 rep.why, .int .i64 rep.low, .int .i64 rep.high, .string rep.results] 45)
  generalize w2.alloc (.cells #[.int .i64 rep.xid, .bool rep.denied, .int .i64 rep.verf.flavor, .string rep.verf.body, .int .i64 rep.accept, .int .i64 rep.reject, .int .i64 rep.why, .int .i64 rep.low, .int .i64 rep.high, .string rep.results] 45) = w3 at *
  have hk3 := blockMove HK2 hf3 id
  have hc3 := HC2.out.grown hf3
  have HF3 := Lib.hid (HF2.out.trans hf3)
  have hidx := idx_gives hc3 w2.heap.size w.heap.size rep.xid src (cellOf hr3 0) (cellOf hk3.out 0) HL.out n Hn.out
  refine hidx.mono ?_
  rintro e w4 ⟨rfl, q, rfl⟩
  have a1 : (w3.drewN q).cell? ⟨w.heap.size, 1, none⟩ = some (.int .i64 dst) := cellOf hk3.out 1
  have n0 : (w3.drewN q).cell? ⟨b, 0, none⟩ = some (.int .i64 S.cfg.addr) := cellOf hc3.box 0
  have HF4 := Lib.hid (HF3.out.drewN q)
  clear hidx hf3 hr3 hk3 hc3 HC2 HK2 HF2 HF3 HH
  generalize w3.drewN q = w4 at *
  have hno := HN.out
  unfold hearR at hno
  by_cases q1 : dst = S.cfg.addr
  · have p1 : (dst != S.cfg.addr) = false := by simp [q1]
    by_cases q2 : er = 0
    · have p2 : (er != 0) = false := by simp [q2]
      rw [if_pos ⟨q1, q2⟩] at hno
      have p3 : n = -1 := by
        rcases Hn.out with ⟨_, e⟩ | ⟨k, hk, _, hit, _⟩
        · exact e
        · rw [List.find?_eq_none] at hno
          exact absurd hit (hno _ (List.getElem_mem hk))
      clear HN Hn hno
      subst p3
      go_wp2_with fail
      go_quiet (fail)
      go_wp2_with fail
      go_ret
      exact ⟨rfl, HF4.out.drewN _⟩
    · have p2 : (er != 0) = true := by simp [q2]
      clear HN Hn hno
      go_wp2_with fail
      go_quiet (fail)
      go_wp2_with fail
      go_ret
      exact ⟨rfl, HF4.out.drewN _⟩
  · have p1 : (dst != S.cfg.addr) = true := by simp [q1]
    clear HN Hn hno
    go_wp2_with fail
    go_quiet (fail)
    go_wp2_with fail
    go_ret
    exact ⟨rfl, HF4.out.drewN _⟩
end Go.Proofs.YtbegjpmifcnieaaGreatDoor

/- A client: Hear, where a call is answered. -/
namespace Go.Proofs.YtbegjpmifcnieaaGreatDoor
open Go.RowKit Go.Lib Go.Sort Go.Shelf
set_option linter.unusedVariables false
set_option linter.unusedSimpArgs false

theorem box10x {w : World} {k t : Nat} {v0 v1 v2 v3 v4 v5 v6 v7 v8 v9 : Value} (h : w.heap[k]? = some (.cells #[v0, v1, v2, v3, v4, v5, v6, v7, v8, v9] t (0, 0))) :
    w.cell? ⟨k, 0, none⟩ = some v0 ∧ w.cell? ⟨k, 1, none⟩ = some v1 ∧ w.cell? ⟨k, 2, none⟩ = some v2 ∧ w.cell? ⟨k, 3, none⟩ = some v3 ∧ w.cell? ⟨k, 4, none⟩ = some v4 ∧ w.cell? ⟨k, 5, none⟩ = some v5 ∧ w.cell? ⟨k, 6, none⟩ = some v6 ∧ w.cell? ⟨k, 7, none⟩ = some v7 ∧ w.cell? ⟨k, 8, none⟩ = some v8 ∧ w.cell? ⟨k, 9, none⟩ = some v9 :=
  ⟨cellOf h 0, cellOf h 1, cellOf h 2, cellOf h 3, cellOf h 4, cellOf h 5, cellOf h 6, cellOf h 7, cellOf h 8, cellOf h 9⟩
set_option maxRecDepth 100000 in
set_option maxHeartbeats 4000000 in
theorem Hear_some {w : World} {b : Nat} {S : CliS} (h : Cli w b S) (hg : ErrT w) (hl : S.calls.length ≤ 1099511627776) (hol : S.outs.length ≤ 1099511627776) (hmet : S.met.Ok) (hn0 : 0 ≤ S.now) (hn1 : S.now ≤ 2305843009213693952) (src dst : Int) (data : ByteArray) (hs : data.size ≤ 140737488351232)
    (r : CallR) (hfi : 0 ≤ r.first ∧ r.first ≤ 2305843009213693952) (hyes : hearR S src dst (parseReplyM data).1.xid (parseReplyM data).2 = some r) :
    Calls Tryz.prog 82 #[.pointer (some ⟨b, 0, none⟩), .agg #[.int .i64 src, .int .i64 dst, .string data]] w fun e w' => e = .returned (.int .i64 r.seq) ∧ ∃ vc vo, Cli w' b (heardS S r (outcomeM (parseReplyM data).1) vc vo) ∧ vc.ownBlock = S.vc.ownBlock ∧ (vo.ownBlock = S.vo.ownBlock ∨ ∃ g, vo.ownBlock = some g ∧ w.heap.size ≤ g) ∧
      Fr (fun k => k = b ∨ S.vc.ownBlock = some k ∨ S.vo.ownBlock = some k ∨ k = S.m) w w' := by
  have hR := Lib.hid (fun w' (hf : Fr (fun _ => False) w w') => ParseReply_any data w' (hg.fr hf id) hs)
  have HH := Lib.hid h
  have HL := Lib.hid (And.intro hl hol)
  have hk0 := Lib.hid (heap_alloc_new w (.cells #[.int .i64 src, .int .i64 dst, .string data] 118))
  have HF0 := Lib.hid (show Fr (fun _ => False) w (w.alloc (.cells #[.int .i64 src, .int .i64 dst, .string data] 118)) from (Fr.refl _ w).alloc _)
  generalize parseReplyM data = pr at hR hyes ⊢
  obtain ⟨rep, er⟩ := pr
  unfold hearR at hyes
  split at hyes
  case isFalse => cases hyes
  rename_i hq
  obtain ⟨q1, q2⟩ := hq
  obtain ⟨k, hk, hit, miss, hkr⟩ : ∃ (k : Nat) (hk : k < S.calls.length), forB rep.xid src S.calls[k] = true ∧ (∀ j (hj : j < k), forB rep.xid src (S.calls[j]'(by omega)) = false) ∧ S.calls[k] = r := by
    rcases find_split (forB rep.xid src) S.calls with ⟨h1, _⟩ | ⟨k, hk, h1, h2, h3⟩
    · rw [h1] at hyes; cases hyes
    · rw [h1] at hyes; exact ⟨k, hk, h2, h3, Option.some.inj hyes⟩
  have hrm : r ∈ S.calls := hkr ▸ List.getElem_mem hk
  have Hr := Lib.hid hrm
  have Hn := Lib.hid (show (S.calls.find? (forB rep.xid src) = none ∧ (k : Int) = -1) ∨ ∃ (k' : Nat) (hk : k' < S.calls.length), (k : Int) = k' ∧ forB rep.xid src S.calls[k'] = true ∧ ∀ j (hj : j < k'), forB rep.xid src (S.calls[j]'(by omega)) = false from .inr ⟨k, hk, rfl, hit, miss⟩)
  obtain ⟨g, c, HVC, HCJ⟩ : ∃ (g c : Nat), Hid (S.vc = .slice (some ⟨g, 0, none⟩) S.calls.length c) ∧ Hid (∀ w' : World, w'.heap[g]? = w.heap[g]? → w'.cell? ⟨g, k, none⟩ = some (.pointer (some ⟨r.k, 0, none⟩))) := by
    obtain ⟨A, c, e, hrow⟩ := h.row
    rcases hrow with h0 | ⟨g, rfl, hj⟩
    · rw [h0] at hk; simp at hk
    · refine ⟨g, c, Lib.hid e, Lib.hid (fun w' hw => ?_)⟩
      rw [← hkr]
      exact (World.cell?_of_block (a := ⟨g, k, none⟩) hw).trans (hj k hk)
  have hgz : g < w.heap.size := (h.rest.own.lt g (by rw [HVC.out]; rfl)).2
  have hkl : (k : Int) < (S.calls.length : Nat) := by omega
  have HKL := Lib.hid hkl
  have HM := Lib.hid hmet
  have HNW := Lib.hid (And.intro hn0 (And.intro hn1 hfi))
  have NF : Hid (¬ (r.k = b ∨ S.vc.ownBlock = some r.k ∨ S.vo.ownBlock = some r.k) ∧ r.k ≠ S.m) := Lib.hid (by
    have hx := (h.rest.each r hrm).box
    refine ⟨?_, fun e => ?_⟩
    · rintro (e | e | e)
      · rw [e, h.box] at hx; simp at hx
      · exact h.rest.vc_ne hx (by decide) e
      · exact h.rest.vo_ne hx (by decide) e
    · rw [e, h.rest.met] at hx; simp at hx)
  have HMZ := Lib.hid (h.rest.foot (.inl rfl)).1
  clear h hg hl hol hmet hn0 hn1 hs hfi hyes hit miss hkr hk
  subst q1 q2
  go_enter Tryz.func82, Tryz.ntmps82
  go_wp2_with fail
  refine (hR.out _ HF0.out).mono ?_
  rintro e w2 ⟨rfl, hf2⟩
  have HK2 := blockMove hk0 hf2 id
  have HF2 := Lib.hid (HF0.out.trans hf2)
  have hc2 := HH.out.grown (HF0.out.trans hf2)
  have HC2 := Lib.hid hc2
  have HZ2 := Lib.hid (HF0.out.trans hf2).size
  have m14 : ∀ A, (w2.alloc A).cell? ⟨b, 14, none⟩ = some S.vc := fun A => Lib.cell?_alloc_some _ hc2.c14
  have hzz := Lib.hid (lt_of_block HK2.out)
  clear hR hf2 HF0 hk0 hc2
  unfold replyCells
  go_wp2_with fail
  clear m14
  have hf3 : Fr (fun _ => False) w2 (w2.alloc (.cells #[.int .i64 rep.xid, .bool rep.denied, .int .i64 rep.verf.flavor, .string rep.verf.body, .int .i64 rep.accept, .int .i64 rep.reject, .int .i64 rep.why, .int .i64 rep.low, .int .i64 rep.high, .string rep.results] 45)) := (Fr.refl _ _).alloc _
  have hr3 := heap_alloc_new w2 (.cells #[.int .i64 rep.xid, .bool rep.denied, .int .i64 rep.verf.flavor, .string rep.verf.body, .int .i64 rep.accept, .int .i64 rep.reject, .int .i64 rep.why, .int .i64 rep.low, .int .i64 rep.high, .string rep.results] 45)
  generalize w2.alloc (.cells #[.int .i64 rep.xid, .bool rep.denied, .int .i64 rep.verf.flavor, .string rep.verf.body, .int .i64 rep.accept, .int .i64 rep.reject, .int .i64 rep.why, .int .i64 rep.low, .int .i64 rep.high, .string rep.results] 45) = w3 at *
  have hk3 := blockMove HK2 hf3 id
  have hc3 := HC2.out.grown hf3
  have HF3 := Lib.hid (HF2.out.trans hf3)
  have hidx := idx_gives hc3 w2.heap.size w.heap.size rep.xid src (cellOf hr3 0) (cellOf hk3.out 0) HL.out.1 k Hn.out
  refine hidx.mono ?_
  rintro e w4 ⟨rfl, q, rfl⟩
  have HK4 : Hid ((w3.drewN q).heap[w.heap.size]? = some (.cells #[.int .i64 src, .int .i64 S.cfg.addr, .string data] 118 (0, 0))) := hk3
  have HR4 : Hid ((w3.drewN q).heap[w2.heap.size]? = some (.cells #[.int .i64 rep.xid, .bool rep.denied, .int .i64 rep.verf.flavor, .string rep.verf.body, .int .i64 rep.accept, .int .i64 rep.reject, .int .i64 rep.why, .int .i64 rep.low, .int .i64 rep.high, .string rep.results] 45 (0, 0))) := Lib.hid hr3
  have HC4 := Lib.hid (hc3.grown ((Fr.refl _ w3).drewN q))
  have HF4 := Lib.hid (HF3.out.drewN q)
  clear hidx hf3 hr3 hk3 hc3 HC2 HK2 HF2 HF3 HH Hn
  generalize w3.drewN q = w4 at *
  have a1 : w4.cell? ⟨w.heap.size, 1, none⟩ = some (.int .i64 S.cfg.addr) := cellOf HK4.out 1
  have n0 : w4.cell? ⟨b, 0, none⟩ = some (.int .i64 S.cfg.addr) := cellOf HC4.out.box 0
  go_wp2_with fail
  go_quiet (fail)
  have HC5 := Lib.hid (HC4.out.grown ((Fr.refl _ w4).drewN nq))
  have HF5 := Lib.hid (HF4.out.drewN nq)
  have HR5 : Hid ((w4.drewN nq).heap[w2.heap.size]? = some (.cells #[.int .i64 rep.xid, .bool rep.denied, .int .i64 rep.verf.flavor, .string rep.verf.body, .int .i64 rep.accept, .int .i64 rep.reject, .int .i64 rep.why, .int .i64 rep.low, .int .i64 rep.high, .string rep.results] 45 (0, 0))) := HR4
  clear HK4 HR4 HC4 HF4 a1 n0
  generalize w4.drewN nq = w5 at *
  have n14 : w5.cell? ⟨b, 14, none⟩ = some (.slice (some ⟨g, 0, none⟩) S.calls.length c) := HVC.out ▸ HC5.out.c14
  have kk := HCJ.out w5 (HF5.out.block g hgz id)
  have HX5 := Lib.hid ((HC5.out.rest.each r Hr.out).box)
  have g4 : w5.cell? ⟨r.k, 4, none⟩ = some (.int .i64 r.given) := cellOf HX5.out 4
  by_cases hgv : r.given = 1
  · have HGV := Lib.hid hgv
    rw [hgv] at g4
    have n5 : w5.cell? ⟨b, 16, none⟩ = some (.pointer (some ⟨S.m, 0, none⟩)) := cellOf HC5.out.box 16
    have n13 := HC5.out.c13
    have d5 : w5.cell? ⟨r.k, 5, none⟩ = some (.int .i64 r.first) := cellOf HX5.out 5
    have HMH := Lib.hid (fun (w' : World) (e : w'.heap = w5.heap) => MHear_any (w := w') (b := S.m) (m := S.met) (S.now - r.first) (by rw [e]; exact HC5.out.rest.met) HM.out)
    have hwr : IntKind.i64.wrap (S.now - r.first) = S.now - r.first := IntWalk.i64_in _ (by have := HNW.out.1; have := HNW.out.2.1; have := HNW.out.2.2.1; have := HNW.out.2.2.2; omega)
    clear hgv
    go_wp2_with fail
    go_still_tail 13, (by kernel_rfl)
    change wpList _ _ _ _ _ w5.drew
    have HMH2 := HMH.out w5.drew rfl
    have HC6 := Lib.hid (HC5.out.grown (Fr.refl _ w5).drew)
    have hmz : S.m < w.heap.size := HMZ.out
    have hz2 : w.heap.size ≤ w2.heap.size := HZ2.out
    clear n5 n13 d5 g4 kk n14 HMH
    go_wp2_with fail
    refine HMH2.mono ?_
    rintro e w8 ⟨rfl, hm8, hf8⟩
    have HC8 := Lib.hid (HC6.out.metered hf8 _ hm8)
    have HR8 : Hid (w8.heap[w2.heap.size]? = some (.cells #[.int .i64 rep.xid, .bool rep.denied, .int .i64 rep.verf.flavor, .string rep.verf.body, .int .i64 rep.accept, .int .i64 rep.reject, .int .i64 rep.why, .int .i64 rep.low, .int .i64 rep.high, .string rep.results] 45 (0, 0))) := Lib.hid ((hf8.block _ (lt_of_block HR5.out) (by omega)).trans HR5.out)
    have HX8 : Hid (w8.heap[r.k]? = some (.cells r.cells 230 (0, 0))) := Lib.hid ((hf8.block _ (lt_of_block HX5.out) NF.out.2).trans HX5.out)
    have HFm : Hid (Fr (fun k => k = b ∨ S.vc.ownBlock = some k ∨ S.vo.ownBlock = some k ∨ k = S.m) w w8) := Lib.hid ((HF5.out.drew.mono (fun _ _ e => e.elim)).trans (hf8.mono (fun _ _ e => .inr (.inr (.inr e)))))
    obtain ⟨r0, r1, r2, r3, r4, r5, r6, r7, r8, r9⟩ := box10x HR8.out
    clear hm8 hf8 HC5 HR5 HX5 HF5 HC6
    go_wp2_with fail
    have h9 : Fr (fun k => k = b ∨ S.vc.ownBlock = some k ∨ S.vo.ownBlock = some k ∨ k = S.m) w w8 := HFm.out
    have HF8 := Lib.hid h9
    have HE := Lib.hid (ends_any (S := S.setMet (S.met.hear (S.now - r.first))) HC8.out r (show r ∈ S.calls from Hr.out) (outcomeM rep) (show S.calls.length ≤ _ from HL.out.1) (show S.outs.length ≤ _ from HL.out.2))
    have HO := Lib.hid (fun w' => outcome_any rep w')
    clear h9
    unfold replyCells outV at HO
    refine (HO.out _).mono ?_
    rintro e w6 ⟨rfl, hf6⟩
    clear r0 r1 r2 r3 r4 r5 r6 r7 r8 r9
    have HE6 := Lib.hid (ends_any (S := S.setMet (S.met.hear (S.now - r.first))) (HC8.out.grown hf6) r (show r ∈ S.calls from Hr.out) (outcomeM rep) (show S.calls.length ≤ _ from HL.out.1) (show S.outs.length ≤ _ from HL.out.2))
    clear HE
    go_wp2_with fail
    refine HE6.out.mono ?_
    rintro e w7 ⟨rfl, A7, c7, vo7, hc7, hv7, ho7, hf7⟩
    have hx7 : w7.heap[r.k]? = some (.cells r.cells 230 (0, 0)) := (hf7.block _ (Nat.lt_of_lt_of_le (lt_of_block HX8.out) hf6.size) NF.out.1).trans ((hf6.block _ (lt_of_block HX8.out) id).trans HX8.out)
    have s7 : w7.cell? ⟨r.k, 0, none⟩ = some (.int .i64 r.seq) := cellOf hx7 0
    have HT : Hid (Cli w7 b (heardS S r (outcomeM rep) (.slice A7 (keepCalls S r.k).length c7) vo7)) := Lib.hid (by
      unfold heardS
      rw [show metS S r = S.setMet (S.met.hear (S.now - r.first)) from if_pos HGV.out]
      exact hc7)
    have HV := Lib.hid (show (Value.slice A7 (keepCalls S r.k).length c7).ownBlock = S.vc.ownBlock from hv7)
    have HO7 : Hid (vo7.ownBlock = S.vo.ownBlock ∨ ∃ g, vo7.ownBlock = some g ∧ w.heap.size ≤ g) := Lib.hid (by
      rcases ho7 with h | ⟨g, h1, h2⟩
      · exact .inl h
      · exact .inr ⟨g, h1, Nat.le_trans (Nat.le_trans HF8.out.size hf6.size) h2⟩)
    have HF7 : Hid (Fr (fun k => k = b ∨ S.vc.ownBlock = some k ∨ S.vo.ownBlock = some k ∨ k = S.m) w w7) := Lib.hid ((HF8.out.trans (hf6.mono (fun _ _ e => e.elim))).trans (hf7.mono (fun k _ e => by
      rcases e with e | e | e
      · exact .inl e
      · exact .inr (.inl e)
      · exact .inr (.inr (.inl e)))))
    clear hc7 hv7 ho7 hf7 hf6 hx7
    go_wp2_with fail
    go_ret
    exact ⟨rfl, _, _, HT.out, HV.out, HO7.out, HF7.out⟩
  · have HGV := Lib.hid hgv
    have hgv : (r.given == 1) = false := beq_eq_false_iff_ne.2 hgv
    obtain ⟨r0, r1, r2, r3, r4, r5, r6, r7, r8, r9⟩ := box10x HR5.out
    go_wp2_with fail
    have h9 : Fr (fun k => k = b ∨ S.vc.ownBlock = some k ∨ S.vo.ownBlock = some k ∨ k = S.m) w w5 := HF5.out.mono (fun _ _ e => e.elim)
    have HF5 := Lib.hid h9
    have HE := Lib.hid (ends_any (S := S) HC5.out r (show r ∈ S.calls from Hr.out) (outcomeM rep) (show S.calls.length ≤ _ from HL.out.1) (show S.outs.length ≤ _ from HL.out.2))
    have HO := Lib.hid (fun w' => outcome_any rep w')
    clear h9
    unfold replyCells outV at HO
    refine (HO.out _).mono ?_
    rintro e w6 ⟨rfl, hf6⟩
    clear r0 r1 r2 r3 r4 r5 r6 r7 r8 r9
    have HE6 := Lib.hid (ends_any (S := S) (HC5.out.grown hf6) r (show r ∈ S.calls from Hr.out) (outcomeM rep) (show S.calls.length ≤ _ from HL.out.1) (show S.outs.length ≤ _ from HL.out.2))
    clear HE
    go_wp2_with fail
    refine HE6.out.mono ?_
    rintro e w7 ⟨rfl, A7, c7, vo7, hc7, hv7, ho7, hf7⟩
    have hx7 : w7.heap[r.k]? = some (.cells r.cells 230 (0, 0)) := (hf7.block _ (Nat.lt_of_lt_of_le (lt_of_block HX5.out) hf6.size) NF.out.1).trans ((hf6.block _ (lt_of_block HX5.out) id).trans HX5.out)
    have s7 : w7.cell? ⟨r.k, 0, none⟩ = some (.int .i64 r.seq) := cellOf hx7 0
    have HT : Hid (Cli w7 b (heardS S r (outcomeM rep) (.slice A7 (keepCalls S r.k).length c7) vo7)) := Lib.hid (by
      unfold heardS
      rw [show metS S r = S from if_neg HGV.out]
      exact hc7)
    have HV := Lib.hid (show (Value.slice A7 (keepCalls S r.k).length c7).ownBlock = S.vc.ownBlock from hv7)
    have HO7 : Hid (vo7.ownBlock = S.vo.ownBlock ∨ ∃ g, vo7.ownBlock = some g ∧ w.heap.size ≤ g) := Lib.hid (by
      rcases ho7 with h | ⟨g, h1, h2⟩
      · exact .inl h
      · exact .inr ⟨g, h1, Nat.le_trans (Nat.le_trans HF5.out.size hf6.size) h2⟩)
    have HF7 : Hid (Fr (fun k => k = b ∨ S.vc.ownBlock = some k ∨ S.vo.ownBlock = some k ∨ k = S.m) w w7) := Lib.hid ((HF5.out.trans (hf6.mono (fun _ _ e => e.elim))).trans (hf7.mono (fun k _ e => by
      rcases e with e | e | e
      · exact .inl e
      · exact .inr (.inl e)
      · exact .inr (.inr (.inl e)))))
    clear hc7 hv7 ho7 hf7 hf6 hx7
    go_wp2_with fail
    go_ret
    exact ⟨rfl, _, _, HT.out, HV.out, HO7.out, HF7.out⟩
end Go.Proofs.YtbegjpmifcnieaaGreatDoor
