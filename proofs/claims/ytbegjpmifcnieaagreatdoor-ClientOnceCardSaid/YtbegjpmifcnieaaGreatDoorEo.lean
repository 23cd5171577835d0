/- A client: Tick, Done. -/
import Derived.Test.YtbegjpmifcnieaaGreatDoorEm
import Derived.Test.YtbegjpmifcnieaaGreatDoorEl
import Derived.Test.YtbegjpmifcnieaaGreatDoorEi
import Derived.Shelf.SlicesE.Clone
import Derived.Deep.RegionHeld3
import Derived.IntWalk
namespace Go.Proofs.YtbegjpmifcnieaaGreatDoor
open Go.RowKit
set_option linter.unusedVariables false
set_option linter.unusedSimpArgs false

theorem clone_calls {w : World} {b : Nat} {S : CliS} (h : Cli w b S) (hl : S.calls.length ≤ 1099511627776) :
    Calls Tryz.prog 130 #[S.vc] w fun e w' => ∃ A c, e = .returned (.slice A S.calls.length c) ∧ w'.ownsRow w.heap.size 228 1 (.slice A S.calls.length c) S.calls.length (S.calls.map fun r => ptrV r.k) ∧ Below w.heap.size w w' := by
  obtain ⟨i0, hi0, hz0, hz1, hz2⟩ := info_parts Tryz.infoPCall
  rcases h.rest.own.2 with ⟨h0, h1⟩ | ⟨g, cap, cur, h0, h1, h2, h3, h4, h5, h6⟩
  · rw [h0]
    refine Calls.mono (show Calls Tryz.prog 130 _ _ _ from AnyE.slices_Clone_nil Tryz.laysClP 0 0 w) ?_
    rintro e w' ⟨rfl, rfl⟩
    have hc : S.calls = [] := List.length_eq_zero_iff.1 h1
    rw [hc]
    exact ⟨none, 0, rfl, ⟨by simp, .inl ⟨rfl, rfl⟩⟩, Below.refl _ _⟩
  · have ho := h.rest.own
    rw [h0] at ho ⊢
    refine Calls.mono (show Calls Tryz.prog 130 _ _ _ from AnyE.slices_Clone Tryz.laysClP i0 _ 1 8 hi0 hz0 hz1 hz2 rfl (by decide) Tryz.sizeOf228 g 0 S.calls.length cap (S.calls.map fun r => ptrV r.k) w (by simp) (by unfold maxLen; omega) (by omega)
      (fun j u hj => by rw [Nat.zero_add]; exact row_cell ho rfl j u hj) (fun u hu => by obtain ⟨y, _, rfl⟩ := List.mem_map.1 hu; rfl)) ?_
    rintro e w' ⟨v, rfl, hv, _, hb⟩
    obtain ⟨A, c, rfl⟩ := owns_slice hv
    exact ⟨A, c, rfl, hv, hb⟩

theorem ClipO_any (A : Option Addr) (n c : Nat) (w : World) (hn : n ≤ c) (hc : c ≤ maxLen) : Calls Tryz.prog 132 #[.slice A n c] w fun r w' => r = .returned (.slice A n n) ∧ w' = w := by
  unfold maxLen at hc
  go_enter Tryz.func132, Tryz.ntmps132
  go_wp2
  go_ret
  exact ⟨rfl, rfl⟩

/-- Done: all outcomes, and none is left. -/
theorem Done_any {w : World} {b : Nat} {S : CliS} (h : Cli w b S) :
    Calls Tryz.prog 52 #[.pointer (some ⟨b, 0, none⟩)] w fun e w' => ∃ A, e = .returned (.slice A S.outs.length S.outs.length) ∧ Cli w' b { S with outs := [], vo := .slice none 0 0 } ∧ OutRow w' 0 146 9 A S.outs.length (outRow S.outs) ∧ (∀ a, A = some a → S.vo.ownBlock = some a.block) ∧ Fr (fun k => k = b) w w' := by
  have n15 := h.c15
  have f15 : w.frozen? ⟨b, 15, none⟩ = false := freeOf h.box 15
  obtain ⟨A, c, e⟩ := owns_slice h.rest.outs
  have ho := h.rest.outs
  rw [e] at ho n15
  have hcap : S.outs.length ≤ c ∧ c ≤ maxLen := by
    rcases ho.2 with ⟨h0, h1⟩ | ⟨q, cap, cur, h0, _, _, h2, h3, _⟩
    · injection h0 with _ h3 h4
      rw [h3, h4]
      exact ⟨Nat.le_refl _, Nat.zero_le _⟩
    · injection h0 with _ _ h4
      rw [h4]
      exact ⟨h2, h3⟩
  have hset := h.setOuts (.slice none 0 0) [] ⟨by simp [outRow], .inl ⟨rfl, rfl⟩⟩
  have hrow : OutRow (w.setCell ⟨b, 15, none⟩ (.slice none 0 0)) 0 146 9 A S.outs.length (outRow S.outs) := by
    rcases OutRow.of ho with h0 | ⟨g, cur, hA, h1, h2, h3, h4⟩
    · exact .inl h0
    · exact .inr ⟨g, cur, hA, h1, (Below.heap_setCell _ _ _ _ (fun e2 => by rw [show (⟨b, 15, none⟩ : Addr).block = b from rfl] at e2; rw [e2, h.box] at h2; simp at h2)).trans h2, h3, h4⟩
  have HS := Lib.hid (And.intro hset (And.intro hrow (And.intro (show ∀ a, A = some a → S.vo.ownBlock = some a.block from fun a ha => by rw [e, ha]; rfl) (show Fr (fun k => k = b) w (w.setCell ⟨b, 15, none⟩ (.slice none 0 0)) from (Fr.refl (fun k => k = b) w).setCell (p := ⟨b, 15, none⟩) (.inl rfl) _))))
  have HC := Lib.hid (fun w => ClipO_any A S.outs.length c w hcap.1 hcap.2)
  clear h ho hcap hset hrow e
  go_enter Tryz.func52, Tryz.ntmps52
  go_wp2_with (go_at_call 132; refine (HC.out _).mono ?_; rintro e w' ⟨rfl, hw⟩; obtain rfl : w = w' := hw.symm)
  go_ret
  exact ⟨A, rfl, HS.out⟩

/-- is a call's time over? -/
def overB (p : PaceM) (now : Int) (r : CallR) : Bool := decide (r.iss + totalM p ≤ now)
def timeoutO : OutM := ⟨0, 2, 0, 0, 0, 0, 0, ByteArray.empty, 0⟩
/-- behind k rounds of Tick: which calls are left, and which outcomes there are. -/
def tickCalls (p : PaceM) (now : Int) (l : List CallR) (k : Nat) : List CallR := (l.take k).filter (fun r => !overB p now r) ++ l.drop k
def tickOuts (S : CliS) (k : Nat) : List OutM := S.outs ++ ((S.calls.take k).filter (overB S.cfg.pace S.now)).map fun r => outOf S r timeoutO
def tickS (S : CliS) (k : Nat) (vc vo : Value) : CliS := { S with calls := tickCalls S.cfg.pace S.now S.calls k, outs := tickOuts S k, vc := vc, vo := vo }
theorem tickCalls_skip (p : PaceM) (now : Int) (l : List CallR) {k : Nat} (hk : k < l.length) (h : overB p now l[k] = false) : tickCalls p now l (k + 1) = tickCalls p now l k := by
  unfold tickCalls
  rw [List.take_succ_eq_append_getElem hk, List.filter_append, List.filter_cons_of_pos (by rw [h]; rfl), List.filter_nil, List.append_assoc, List.singleton_append, List.drop_eq_getElem_cons hk]
theorem tickOuts_skip (S : CliS) {k : Nat} (hk : k < S.calls.length) (h : overB S.cfg.pace S.now S.calls[k] = false) : tickOuts S (k + 1) = tickOuts S k := by
  unfold tickOuts
  rw [List.take_succ_eq_append_getElem hk, List.filter_append, List.filter_cons_of_neg (by rw [h]; decide), List.filter_nil, List.append_nil]
theorem tickOuts_over (S : CliS) {k : Nat} (hk : k < S.calls.length) (h : overB S.cfg.pace S.now S.calls[k] = true) : tickOuts S (k + 1) = tickOuts S k ++ [outOf S S.calls[k] timeoutO] := by
  unfold tickOuts
  rw [List.take_succ_eq_append_getElem hk, List.filter_append, List.filter_cons_of_pos h, List.filter_nil, List.map_append, ← List.append_assoc]
  rfl
theorem tick_mem (p : PaceM) (now : Int) (l : List CallR) {k : Nat} (hk : k < l.length) : l[k] ∈ tickCalls p now l k := by
  unfold tickCalls
  rw [List.drop_eq_getElem_cons hk]
  exact List.mem_append_right _ List.mem_cons_self
theorem tickCalls_over (p : PaceM) (now : Int) (l : List CallR) (hn : (l.map (·.k)).Nodup) {k : Nat} (hk : k < l.length) (h : overB p now l[k] = true) :
    (tickCalls p now l k).filter (fun q => !decide (q.k = l[k].k)) = tickCalls p now l (k + 1) := by
  unfold tickCalls
  have hs : l = l.take k ++ l[k] :: l.drop (k + 1) := by rw [← List.drop_eq_getElem_cons hk, List.take_append_drop]
  have hn2 : ((l.take k ++ l[k] :: l.drop (k + 1)).map (·.k)).Nodup := by rw [← hs]; exact hn
  rw [List.map_append, List.map_cons] at hn2
  obtain ⟨_, h2, h3⟩ := List.nodup_append.1 hn2
  have e1 : ∀ q ∈ (l.take k).filter (fun r => !overB p now r), (!decide (q.k = l[k].k)) = true := fun q hq => by
    have := h3 q.k (List.mem_map.2 ⟨q, (List.mem_filter.1 hq).1, rfl⟩) (l[k]).k List.mem_cons_self
    simp [this]
  have e2 : ∀ q ∈ l.drop (k + 1), (!decide (q.k = l[k].k)) = true := fun q hq => by
    have : q.k ≠ (l[k]).k := fun e => (List.nodup_cons.1 h2).1 (List.mem_map.2 ⟨q, hq, e⟩)
    simp [this]
  rw [List.take_succ_eq_append_getElem hk, List.filter_append, List.filter_append, List.filter_cons_of_neg (by rw [h]; decide), List.filter_nil, List.append_nil, List.drop_eq_getElem_cons hk, List.filter_cons_of_neg (by simp), List.filter_eq_self.2 e1, List.filter_eq_self.2 e2]
theorem tick_end (S : CliS) (vc vo : Value) : tickS S S.calls.length vc vo = { S with calls := S.calls.filter (fun r => !overB S.cfg.pace S.now r), outs := S.outs ++ (S.calls.filter (overB S.cfg.pace S.now)).map fun r => outOf S r timeoutO, vc := vc, vo := vo } := by
  unfold tickS tickCalls tickOuts
  rw [List.take_length, List.drop_length, List.append_nil]
end Go.Proofs.YtbegjpmifcnieaaGreatDoor

/- A client: Tick, walked. -/
namespace Go.Proofs.YtbegjpmifcnieaaGreatDoor
open Go.RowKit
set_option linter.unusedVariables false
set_option linter.unusedSimpArgs false

structure TickI (w0 : World) (b : Nat) (S : CliS) (A : Option Addr) (c : Nat) (k : Nat) (vc vo : Value) (w : World) : Prop where
  cli : Cli w b (tickS S k vc vo)
  row : w.ownsRow w0.heap.size 228 1 (.slice A S.calls.length c) S.calls.length (S.calls.map fun r => ptrV r.k)
  vco : vc.ownBlock = S.vc.ownBlock
  voo : vo.ownBlock = S.vo.ownBlock ∨ ∃ g, vo.ownBlock = some g ∧ w0.heap.size ≤ g
  fr : Fr (fun k => k = b ∨ S.vc.ownBlock = some k ∨ S.vo.ownBlock = some k) w0 w
theorem TickI.skip {w0 w w' : World} {b : Nat} {S : CliS} {A : Option Addr} {c k : Nat} {vc vo : Value} (h : TickI w0 b S A c k vc vo w) (hk : k < S.calls.length) (hd : overB S.cfg.pace S.now S.calls[k] = false) (hf : Fr (fun _ => False) w w') : TickI w0 b S A c (k + 1) vc vo w' := by
  refine ⟨?_, ownsRow_keep h.row (fun g e => hf.block _ (h.row.lt g e).2 id), h.vco, h.voo, h.fr.trans (hf.mono (fun _ _ e => e.elim))⟩
  have := h.cli.grown hf
  unfold tickS at *
  rw [tickCalls_skip _ _ _ hk hd, tickOuts_skip S hk hd]
  exact this
theorem TickI.over {w0 w w' : World} {b : Nat} {S : CliS} {A A2 : Option Addr} {c c2 k : Nat} {vc vo vo2 : Value} (h : TickI w0 b S A c k vc vo w) (hS : (S.calls.map (·.k)).Nodup) (hb : b < w0.heap.size) (hv : ∀ g, S.vc.ownBlock = some g → g < w0.heap.size) (hk : k < S.calls.length) (hd : overB S.cfg.pace S.now S.calls[k] = true)
    (hc : Cli w' b { tickS S k vc vo with calls := keepCalls (tickS S k vc vo) S.calls[k].k, vc := .slice A2 (keepCalls (tickS S k vc vo) S.calls[k].k).length c2, outs := (tickS S k vc vo).outs ++ [outOf (tickS S k vc vo) S.calls[k] timeoutO], vo := vo2 })
    (h1 : (Value.slice A2 (keepCalls (tickS S k vc vo) S.calls[k].k).length c2).ownBlock = vc.ownBlock) (h2 : vo2.ownBlock = vo.ownBlock ∨ ∃ g, vo2.ownBlock = some g ∧ w.heap.size ≤ g)
    (hf : Fr (fun k => k = b ∨ vc.ownBlock = some k ∨ vo.ownBlock = some k) w w') : ∃ vc', TickI w0 b S A c (k + 1) vc' vo2 w' := by
  have e1 : keepCalls (tickS S k vc vo) S.calls[k].k = tickCalls S.cfg.pace S.now S.calls (k + 1) := tickCalls_over _ _ _ hS hk hd
  refine ⟨.slice A2 (keepCalls (tickS S k vc vo) S.calls[k].k).length c2, ?_, ownsRow_keep h.row (fun g e => hf.block _ (h.row.lt g e).2 ?_), h1.trans h.vco, ?_, h.fr.then hf (fun i hi e => ?_)⟩
  · have e2 : tickOuts S (k + 1) = (tickS S k vc vo).outs ++ [outOf (tickS S k vc vo) S.calls[k] timeoutO] := tickOuts_over S hk hd
    unfold tickS at *
    rw [e2, ← e1]
    exact hc
  · have hlo := (h.row.lt g e).1
    rintro (e2 | e2 | e2)
    · omega
    · have := hv g (h.vco ▸ e2)
      omega
    · rcases h.row.2 with ⟨h0, _⟩ | ⟨g', cap, cur, h0, _, hg, _⟩
      · rw [h0] at e; cases e
      · rw [h0] at e
        obtain rfl : g' = g := Option.some.inj e
        exact h.cli.rest.vo_ne hg (by decide) e2
  · rcases h2 with h2 | ⟨g, h2, h3⟩
    · rcases h.voo with h4 | h4
      · exact .inl (h2.trans h4)
      · exact .inr (by rw [h2]; exact h4)
    · exact .inr ⟨g, h2, Nat.le_trans h.fr.size h3⟩
  · rcases e with e | e | e
    · exact .inl e
    · exact .inr (.inl (h.vco ▸ e))
    · rcases h.voo with h4 | ⟨g, h4, h5⟩
      · exact .inr (.inr (h4 ▸ e))
      · rw [h4] at e
        obtain rfl : g = i := Option.some.inj e
        omega

theorem tickCalls_le (p : PaceM) (now : Int) (l : List CallR) (k : Nat) : (tickCalls p now l k).length ≤ l.length := by
  unfold tickCalls
  have h1 := List.length_filter_le (fun r => !overB p now r) (l.take k)
  rw [List.length_append, List.length_drop]
  rw [List.length_take] at h1
  omega
theorem tickOuts_le (S : CliS) (k : Nat) : (tickOuts S k).length ≤ S.outs.length + S.calls.length := by
  unfold tickOuts
  have h1 := List.length_filter_le (overB S.cfg.pace S.now) (S.calls.take k)
  rw [List.length_append, List.length_map]
  rw [List.length_take] at h1
  omega

set_option maxRecDepth 100000 in
set_option maxHeartbeats 4000000 in
theorem Tick_any {w : World} {b : Nat} {S : CliS} (h : Cli w b S) (hn0 : 0 ≤ S.now) (hn1 : S.now ≤ 2305843009213693952) (hN : ∀ r ∈ S.calls, CallN r) (hl : S.calls.length ≤ 1073741824) (ho : S.outs.length ≤ 1073741824) :
    Calls Tryz.prog 51 #[.pointer (some ⟨b, 0, none⟩)] w fun e w' => e = .returned (.tuple #[]) ∧ ∃ vc vo, Cli w' b (tickS { S with now := S.now + 1 } S.calls.length vc vo) ∧ vc.ownBlock = S.vc.ownBlock ∧ (vo.ownBlock = S.vo.ownBlock ∨ ∃ g, vo.ownBlock = some g ∧ w.heap.size ≤ g) ∧ Fr (fun k => k = b ∨ S.vc.ownBlock = some k ∨ S.vo.ownBlock = some k) w w' := by
  have n13 := h.c13
  have f13 : w.frozen? ⟨b, 13, none⟩ = false := freeOf h.box 13
  have H1 := Lib.hid (h.setNow (S.now + 1))
  have hwr : IntKind.i64.wrap (S.now + 1) = S.now + 1 := IntWalk.i64_in _ (by omega)
  have HS : Hid ((S.calls.map (·.k)).Nodup ∧ b < w.heap.size ∧ ∀ g, S.vc.ownBlock = some g → g < w.heap.size) := Lib.hid ⟨h.rest.nodup, lt_of_block h.box, fun g e => (h.rest.own.lt g e).2⟩
  have HF1 := Lib.hid ((Fr.refl (fun k => k = b ∨ S.vc.ownBlock = some k ∨ S.vo.ownBlock = some k) w).setCell (p := ⟨b, 13, none⟩) (.inl (.inl rfl)) (.int .i64 (S.now + 1)))
  have HN := Lib.hid hN
  have HL := Lib.hid (And.intro hl ho)
  have hbw : b < w.heap.size := HS.out.2.1
  have n14 : (w.setCell ⟨b, 13, none⟩ (.int .i64 (S.now + 1))).cell? ⟨b, 14, none⟩ = some S.vc := H1.out.c14
  have HC := Lib.hid (clone_calls H1.out (by show S.calls.length ≤ _; omega))
  clear h hN hl ho
  go_enter Tryz.func51, Tryz.ntmps51
  go_wp2_with fail
  refine HC.out.mono ?_
  rintro e w2 ⟨A, c, rfl, hrow, hb2⟩
  rw [World.size_setCell] at hrow hb2
  have hf2 : Fr (fun _ => False) (w.setCell ⟨b, 13, none⟩ (.int .i64 (S.now + 1))) w2 := Fr.ofBelow (by rw [World.size_setCell]; exact hb2)
  have HI : Hid (TickI w b { S with now := S.now + 1 } A c 0 S.vc S.vo w2) := Lib.hid ⟨by
      have := H1.out.grown hf2
      unfold tickS tickCalls tickOuts
      simpa using this, hrow, rfl, .inl rfl, HF1.out.trans (hf2.mono (fun _ _ e => e.elim))⟩
  have HT := Lib.hid (fun w => Total_any S.cfg.pace w)
  have hl := HL.out.1
  clear HC hrow hb2 hf2 n13 n14 f13 HF1
  unfold paceV at HT
  go_wp2_with fail
  go_loopw [3, 17] (fun x i wr => ∃ k : Nat, k ≤ S.calls.length ∧ i = .int .i64 k ∧ (∃ v : Value, x = v) ∧ Hid (∃ vc vo, TickI w b { S with now := S.now + 1 } A c k vc vo wr)) (fun _ i _ => S.calls.length - (intOf i).toNat)
  case atStart => exact ⟨0, Nat.zero_le _, rfl, ⟨_, rfl⟩, Lib.hid ⟨_, _, HI.out⟩⟩
  case round =>
    obtain ⟨k, hk, rfl, ⟨vx, rfl⟩, hI⟩ := hrel
    clear HI
    obtain ⟨vc, vo, hI⟩ := hI.out
    have HI := Lib.hid hI
    by_cases hlt : k < S.calls.length
    · obtain ⟨g, rfl⟩ : ∃ g, A = some ⟨g, 0, none⟩ := by
        rcases hI.row.2 with ⟨_, h1⟩ | ⟨g, cap, cur, h0, _⟩
        · exact absurd hlt (by have : S.calls.length = 0 := h1; omega)
        · injection h0 with h0; exact ⟨g, h0⟩
      have hcell : wr.cell? ⟨g, k, none⟩ = some (.pointer (some ⟨(S.calls[k]).k, 0, none⟩)) := row_cell hI.row rfl k _ (by rw [List.getElem?_map, List.getElem?_eq_getElem hlt]; rfl)
      have hmem := tick_mem S.cfg.pace (S.now + 1) S.calls hlt
      have hcn := HN.out S.calls[k] (List.getElem_mem hlt)
      generalize hrk : S.calls[k] = r at *
      have hra := hI.cli.rest.each r hmem
      have d2 : wr.cell? ⟨r.k, 2, none⟩ = some (.int .i64 r.iss) := cellOf hra.box 2
      have n4 : wr.cell? ⟨b, 4, none⟩ = some (.int .i64 S.cfg.pace.base) := cellOf hI.cli.box 4
      have n5 : wr.cell? ⟨b, 5, none⟩ = some (.int .i64 S.cfg.pace.cap) := cellOf hI.cli.box 5
      have n6 : wr.cell? ⟨b, 6, none⟩ = some (.int .i64 S.cfg.pace.tries) := cellOf hI.cli.box 6
      have n13 : wr.cell? ⟨b, 13, none⟩ = some (.int .i64 (S.now + 1)) := hI.cli.c13
      have ⟨t0, t1⟩ := totalM_bounds S.cfg.pace
      have i0 := hcn.i0
      have i1 := hcn.i1
      have hB : overB S.cfg.pace (S.now + 1) r = decide (r.iss + totalM S.cfg.pace ≤ S.now + 1) := rfl
      have HB := Lib.hid hB
      have HM := Lib.hid hmem
      have HRK := Lib.hid hrk
      have HLT := Lib.hid hlt
      clear hI hra hcn hB hmem hrk
      generalize totalM S.cfg.pace = tot at *
      have hwt : IntKind.i64.wrap (r.iss + tot) = r.iss + tot := IntWalk.i64_in _ (by omega)
      go_wp2_with fail
      go_region_held3 (fun w' => w'.cell? ⟨r.k, 2, none⟩ = some (.int .i64 r.iss) ∧ w'.cell? ⟨b, 4, none⟩ = some (.int .i64 S.cfg.pace.base) ∧ w'.cell? ⟨b, 5, none⟩ = some (.int .i64 S.cfg.pace.cap) ∧ w'.cell? ⟨b, 6, none⟩ = some (.int .i64 S.cfg.pace.tries) ∧ w'.cell? ⟨b, 13, none⟩ = some (.int .i64 (S.now + 1)))
        (first
          | go_keep
          | exact ⟨k2, k4, k5, k6, k13⟩)
        ((go_at_call 84; refine (HT.out _).mono ?_; rintro e w3 ⟨rfl, hf3⟩; have hF3 : Fr (fun _ => False) wr w3 := ((Fr.refl (fun _ => False) wr).drew).trans hf3; have kk : ∀ (a : Addr) v, wr.cell? a = some v → w3.cell? a = some v := fun a v hc => (World.cell?_of_block (w := wr) (hF3.block _ (World.block_lt_of_cell? _ _ hc) id)).trans hc; have k2 := kk _ _ d2; have k4 := kk _ _ n4; have k5 := kk _ _ n5; have k6 := kk _ _ n6; have k13 := kk _ _ n13; clear kk hf3))
      have HF3 := Lib.hid hF3
      clear hF3 k2 k4 k5 k6 k13 d2 n4 n5 n6 n13 hcell
      by_cases hc : r.iss + tot ≤ S.now + 1
      · have HE := Lib.hid (ends_any (HI.out.cli.grown HF3.out) r HM.out timeoutO (by have := tickCalls_le S.cfg.pace (S.now + 1) S.calls k; show (tickCalls S.cfg.pace (S.now + 1) S.calls k).length ≤ _; omega) (by have := tickOuts_le { S with now := S.now + 1 } k; have := HL.out.2; show (tickOuts { S with now := S.now + 1 } k).length ≤ _; have h9 : ({ S with now := S.now + 1 } : CliS).outs.length = S.outs.length := rfl; have h8 : ({ S with now := S.now + 1 } : CliS).calls.length = S.calls.length := rfl; omega))
        have hob : overB S.cfg.pace (S.now + 1) r = true := by rw [HB.out]; exact decide_eq_true hc
        have HOB := Lib.hid hob
        clear hob
        go_wp2_with fail
        refine HE.out.mono ?_
        rintro e w4 ⟨rfl, A2, c2, vo2, hc4, hv4, ho4, hf4⟩
        have hnew : ∃ vc', TickI w b { S with now := S.now + 1 } (some ⟨g, 0, none⟩) c (k + 1) vc' vo2 w4 := by
          obtain rfl := HRK.out
          refine HI.out.over HS.out.1 HS.out.2.1 HS.out.2.2 HLT.out HOB.out hc4 hv4 ?_ ((HF3.out.mono (fun _ _ e => e.elim)).trans hf4)
          rcases ho4 with h | ⟨q, h1, h2⟩
          · exact .inl h
          · exact .inr ⟨q, h1, Nat.le_trans HF3.out.size h2⟩
        obtain ⟨vc', hnew⟩ := hnew
        have HNEW := Lib.hid hnew
        clear hnew hc4 hv4 ho4 hf4 HE
        go_wp2_with fail
        exact ⟨⟨k + 1, by omega, by go_num, ⟨_, rfl⟩, Lib.hid ⟨_, _, HNEW.out⟩⟩, by simp [intOf]; omega⟩
      · have hs : Hid (TickI w b { S with now := S.now + 1 } (some ⟨g, 0, none⟩) c (k + 1) vc vo w3) := Lib.hid (by
          obtain rfl := HRK.out
          exact HI.out.skip HLT.out (HB.out.trans (decide_eq_false hc)) HF3.out)
        have hc := Int.not_le.1 hc
        go_wp2_with fail
        exact ⟨⟨k + 1, by omega, by go_num, ⟨_, rfl⟩, Lib.hid ⟨_, _, hs.out⟩⟩, by simp [intOf]; omega⟩
    · obtain rfl : k = S.calls.length := by omega
      go_wp2_with fail
      go_end0
      exact ⟨rfl, vc, vo, HI.out.cli, HI.out.vco, HI.out.voo, HI.out.fr⟩
end Go.Proofs.YtbegjpmifcnieaaGreatDoor
