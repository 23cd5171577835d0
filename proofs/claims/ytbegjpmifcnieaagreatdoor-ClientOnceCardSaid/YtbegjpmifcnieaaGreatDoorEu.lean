/- callboxlaw17: the config of the chapter's examples. -/
import Derived.Test.YtbegjpmifcnieaaGreatDoorEc
import Derived.Laws.Tables
import Derived.Test.YtbegjpmifcnieaaGreatDoorEo
import Derived.Laws.Pointers
namespace Go.Proofs.YtbegjpmifcnieaaGreatDoor
open Go.RowKit
set_option linter.unusedVariables false
set_option linter.unusedSimpArgs false

def cfg0 : CfgM := ⟨65537, 5, 9, 2, ⟨2, 8, 4⟩, ⟨0, ByteArray.empty, 0, 0, []⟩⟩
def cfgZ : CfgM := ⟨0, 0, 0, 0, ⟨0, 0, 0⟩, ⟨0, ByteArray.empty, 0, 0, []⟩⟩
theorem cfg0_may : NewMay cfg0 := (new_iff _).1 (by decide)
theorem cfgZ_not : ¬ NewMay cfgZ := fun h => by have := h.h1; revert this; decide

set_option maxRecDepth 100000 in
theorem config_any (w : World) : Calls Tryz.prog 48 #[] w fun r w' => r = .returned (.agg (cfgCells cfg0 none 0)) ∧ Fr (fun _ => False) w w' := by
  go_enter Tryz.func48, Tryz.ntmps48
  go_wp2_with fail
  exact bodyPost_ret (results_cell_row rfl _ _ _ _ _ _ _ rfl (heap_alloc_new w _) Tryz.underlying28 rfl (by kernel_rfl)) rfl ⟨rfl, (Fr.refl _ _).alloc _⟩
end Go.Proofs.YtbegjpmifcnieaaGreatDoor

/- callboxlaw17: a client's first calls, in plain Lean. -/
namespace Go.Proofs.YtbegjpmifcnieaaGreatDoor
open Go.RowKit
set_option linter.unusedVariables false
set_option linter.unusedSimpArgs false

theorem total0 : totalM cfg0.pace = 22 := by decide
theorem due0 : dueM cfg0.pace 0 0 = 1 := by decide
theorem right0 : Right cfg0.pace := (right_iff _).1 (by decide)
def abcd : ByteArray := ⟨#[97, 98, 99, 100]⟩
def out0 : OutM := ⟨9, 2, 0, 0, 0, 0, 0, ByteArray.empty, 22⟩

theorem NewCli.cli {c : CfgM} {w w' : World} {b : Nat} (h : NewCli c w w' b) : ∃ S, Cli w' b S ∧ S.cfg = c ∧ S.next = c.first ∧ S.now = 0 ∧ S.calls = [] ∧ S.outs = [] ∧ S.vc = .slice none 0 0 ∧ S.vo = .slice none 0 0 ∧ (∀ q, Foot b S q → w.heap.size ≤ q) := by
  obtain ⟨A, n, m, h1, h2, h3, h4, h5, h6, h7⟩ := h
  refine ⟨⟨c, A, n, c.first, 0, [], .slice none 0 0, [], .slice none 0 0, m, false, 0, 0⟩, ⟨h4, ⟨h5, h6, fun a ha => ⟨(h7 a ha).2.1, fun x hx => ?_⟩, ⟨rfl, .inl ⟨rfl, rfl⟩⟩, ⟨rfl, .inl ⟨rfl, rfl⟩⟩, fun r hr => (by cases hr), List.nodup_nil⟩⟩, rfl, rfl, rfl, rfl, rfl, rfl, rfl, fun q hq => ?_⟩
  · obtain ⟨y, hy⟩ := (h7 a ha).2.2.2.2
    rw [hy] at hx
    exact ⟨y, (Option.some.inj hx).symm⟩
  · rcases hq with rfl | rfl | ⟨a, ha, rfl⟩ | e | e | ⟨r, hr, _⟩
    · exact h1
    · exact h2
    · exact (h7 a ha).1
    · cases e
    · cases e
    · cases hr

/-- behind k ticks. -/
structure AwI (w0 : World) (b k : Nat) (r : CallR) (gl : Nat) (cur : Array Value) (w : World) : Prop where
  st : ∃ S, Cli w b S ∧ S.cfg = cfg0 ∧ S.next = 10 ∧ S.now = k ∧ (k < 22 → S.calls = [r] ∧ S.outs = []) ∧ (22 ≤ k → S.calls = [] ∧ S.outs = [out0]) ∧ (∀ q, Foot b S q → w0.heap.size ≤ q)
  fr : Fr (fun _ => False) w0 w
  row : w.heap[gl]? = some (.cells cur 118 (0, 0))

theorem AwI.tick {w0 w : World} {b k : Nat} {r : CallR} {gl : Nat} {cur : Array Value} (h : AwI w0 b k r gl cur w) (hk : k < 22) (h0 : r.seq = 9) (h1 : r.iss = 0) (hN : CallN r) :
    Calls Tryz.prog 51 #[.pointer (some ⟨b, 0, none⟩)] w fun e w' => e = .returned (.tuple #[]) ∧ AwI w0 b (k + 1) r gl cur w' := by
  obtain ⟨S, hc, hcfg, hnx, hnow, hl, _, hlo⟩ := h.st
  obtain ⟨hcalls, houts⟩ := hl hk
  refine (Tick_any hc (by rw [hnow]; omega) (by rw [hnow]; omega) (fun q hq => by rw [hcalls] at hq; rw [List.mem_singleton.1 hq]; exact hN) (by rw [hcalls]; simp) (by rw [houts]; simp)).mono ?_
  rintro e w' ⟨rfl, vc, vo, hc2, hv, ho, hf⟩
  refine ⟨rfl, ⟨_, hc2, hcfg, hnx, ?_, fun hk2 => ?_, fun hk2 => ?_, fun q hq => ?_⟩, h.fr.then hf (fun i hi e => ?_), ?_⟩
  · show S.now + 1 = _
    rw [hnow]; omega
  · have hov : overB S.cfg.pace (S.now + 1) r = false := by
      unfold overB
      rw [hcfg, total0, h1, hnow]
      exact decide_eq_false (by omega)
    constructor
    · show tickCalls S.cfg.pace (S.now + 1) S.calls S.calls.length = _
      rw [hcalls]
      unfold tickCalls
      simp [hov]
    · show tickOuts { S with now := S.now + 1 } S.calls.length = _
      unfold tickOuts
      show S.outs ++ ((S.calls.take S.calls.length).filter (overB S.cfg.pace (S.now + 1))).map _ = _
      rw [hcalls, houts]
      simp [hov]
  · have hk21 : k = 21 := by omega
    have hov : overB S.cfg.pace (S.now + 1) r = true := by
      unfold overB
      rw [hcfg, total0, h1, hnow, hk21]
      decide
    constructor
    · show tickCalls S.cfg.pace (S.now + 1) S.calls S.calls.length = _
      rw [hcalls]
      unfold tickCalls
      simp [hov]
    · show tickOuts { S with now := S.now + 1 } S.calls.length = _
      unfold tickOuts
      show S.outs ++ ((S.calls.take S.calls.length).filter (overB S.cfg.pace (S.now + 1))).map _ = _
      rw [hcalls, houts]
      simp only [List.length_singleton, List.take_succ_cons, List.take_zero, List.filter_cons_of_pos hov, List.filter_nil, List.map_cons, List.map_nil, List.nil_append]
      unfold outOf timeoutO out0
      rw [h0]
      show [OutM.mk 9 2 0 0 0 0 0 ByteArray.empty (S.now + 1)] = _
      rw [hnow, hk21]
      rfl
  · have hfoot : ∀ q, RFoot S q → w0.heap.size ≤ q := fun q hq => hlo q (.inr hq)
    rcases hq with rfl | rfl | ⟨a, ha, rfl⟩ | e | e | ⟨q', hq', hm⟩
    · exact hlo _ (.inl rfl)
    · exact hfoot _ (.inl rfl)
    · exact hfoot _ (.inr (.inl ⟨a, ha, rfl⟩))
    · exact hfoot _ (.inr (.inr (.inl (hv ▸ e))))
    · rcases ho with h4 | ⟨g, h4, h5⟩
      · exact hfoot _ (.inr (.inr (.inr (.inl (h4 ▸ e)))))
      · have e : vo.ownBlock = some q := e
        rw [h4] at e
        obtain rfl : g = q := Option.some.inj e
        exact Nat.le_trans h.fr.size h5
    · have hq2 : q' ∈ tickCalls S.cfg.pace (S.now + 1) S.calls S.calls.length := hq'
      unfold tickCalls at hq2
      rw [List.take_length, List.drop_length, List.append_nil] at hq2
      exact hfoot _ (.inr (.inr (.inr (.inr ⟨q', (List.mem_filter.1 hq2).1, hm⟩))))
  · rcases e with rfl | e | e
    · have := hlo _ (.inl rfl); omega
    · have := hlo _ (.inr (.inr (.inr (.inl e)))); omega
    · have := hlo _ (.inr (.inr (.inr (.inr (.inl e))))); omega
  · refine (hf.block _ (lt_of_block h.row) ?_).trans h.row
    rintro (e | e | e)
    · have := h.row
      rw [e, hc.box] at this
      simp at this
    · exact hc.rest.vc_ne h.row (by decide) e
    · exact hc.rest.vo_ne h.row (by decide) e
end Go.Proofs.YtbegjpmifcnieaaGreatDoor

/- callboxlaw17: a client's first calls, step by step. -/
namespace Go.Proofs.YtbegjpmifcnieaaGreatDoor
open Go.RowKit
set_option linter.unusedVariables false
set_option linter.unusedSimpArgs false

/-- a client of the chapter's config, made in the call, whose time stands at 0. -/
structure Aw (w0 : World) (b : Nat) (S : CliS) (w : World) : Prop where
  cli : Cli w b S
  cfg : S.cfg = cfg0
  now : S.now = 0
  outs : S.outs = []
  lo : ∀ q, Foot b S q → w0.heap.size ≤ q
  fr : Fr (fun _ => False) w0 w
theorem new0 (w0 w : World) (hf : Fr (fun _ => False) w0 w) (hg : ErrT w) :
    Calls Tryz.prog 17 #[.agg #[.int .i64 65537, .int .i64 5, .int .i64 9, .int .i64 2, .int .i64 2, .int .i64 8, .int .i64 4, .int .i64 0, .string ⟨#[]⟩, .int .i64 0, .int .i64 0, .slice none 0 0]] w fun r w' => ∃ b, r = .returned (.tuple #[.pointer (some ⟨b, 0, none⟩), .int .i64 0]) ∧ ∃ S, Aw w0 b S w' ∧ S.next = 9 ∧ S.calls = [] := by
  refine Calls.mono (show Calls Tryz.prog 17 #[.agg (cfgCells cfg0 none 0)] w _ from New_yes cfg0 none 0 w (.inl rfl) hg (fun a ha => by cases ha) (Nat.zero_le _) (Nat.zero_le _) cfg0_may) ?_
  rintro e w' ⟨b, rfl, hf2, hn⟩
  obtain ⟨S, hc, h1, h2, h3, h4, h5, _, _, h6⟩ := hn.cli
  exact ⟨b, rfl, S, ⟨hc, h1, h3, h5, fun q hq => Nat.le_trans hf.size (h6 q hq), hf.trans hf2⟩, h2, h4⟩
theorem newZ (w : World) (hg : ErrT w) :
    Calls Tryz.prog 17 #[.agg #[.int .i64 0, .int .i64 0, .int .i64 0, .int .i64 0, .int .i64 0, .int .i64 0, .int .i64 0, .int .i64 0, .string ⟨#[]⟩, .int .i64 0, .int .i64 0, .slice none 0 0]] w fun r w' => r = .returned (.tuple #[.pointer none, .int .i64 170]) ∧ Fr (fun _ => False) w w' :=
  show Calls Tryz.prog 17 #[.agg (cfgCells cfgZ none 0)] w _ from New_no cfgZ none 0 w (.inl rfl) hg (fun a ha => by cases ha) (Nat.zero_le _) (Nat.zero_le _) cfgZ_not
theorem Aw.grown {w0 w w' : World} {b : Nat} {S : CliS} (h : Aw w0 b S w) (hf : Fr (fun _ => False) w w') : Aw w0 b S w' := ⟨h.cli.grown hf, h.cfg, h.now, h.outs, h.lo, h.fr.trans hf⟩
theorem call0 {w0 w : World} {b : Nat} {S : CliS} (h : Aw w0 b S w) (hn : S.next = 9) (hc : S.calls = []) :
    Calls Tryz.prog 49 #[.pointer (some ⟨b, 0, none⟩), .int .i64 65636, .int .i64 7, .int .i64 1, .int .i64 2, .string ⟨#[97, 98, 99, 100]⟩] w fun e w' => e = .returned (.tuple #[.int .i64 9, .int .i64 0]) ∧ ∃ S2 r, Aw w0 b S2 w' ∧ S2.next = 10 ∧ S2.calls = [r] ∧ CallN r ∧ r.seq = 9 ∧ r.iss = 0 ∧ r.done = 0 ∧ r.given = 0 ∧ r.dst = 65636 := by
  have hw : waterM S = 9 := by unfold waterM; rw [hc]; exact hn
  have hcn : CliN S := ⟨by omega, by omega, by omega, by omega, by rw [hc]; simp, by rw [h.outs]; simp, by rw [h.now]; decide, by rw [h.now]; decide⟩
  have hcm : CallMay S 65636 7 1 2 ⟨#[97, 98, 99, 100]⟩ := ⟨by decide, by decide, by decide, by decide, by decide, by decide, by rw [hw, hn, h.cfg]; decide, by rw [hn]; decide⟩
  refine (Call_ok h.cli hcn 65636 7 1 2 ⟨#[97, 98, 99, 100]⟩ hcm).mono ?_
  rintro e w' ⟨rfl, k, vc, hk, hc2, hv, hf⟩
  refine ⟨by rw [hn], _, newCall S k w.heap.size 65636 7 1 2 ⟨#[97, 98, 99, 100]⟩, ⟨hc2, h.cfg, h.now, h.outs, fun q hq => ?_, h.fr.then hf (fun i hi e => ?_)⟩, by show S.next + 1 = 10; omega, by show S.calls ++ _ = _; rw [hc]; rfl, ?_, hn, h.now, rfl, rfl, rfl⟩
  · rcases hq with rfl | rfl | ⟨a, ha, rfl⟩ | e | e | ⟨r, hr, hm⟩
    · exact h.lo _ (.inl rfl)
    · exact h.lo _ (.inr (.inl rfl))
    · exact h.lo _ (.inr (.inr (.inl ⟨a, ha, rfl⟩)))
    · rcases hv with h4 | ⟨g, h4, h5⟩
      · exact h.lo _ (.inr (.inr (.inr (.inl (h4 ▸ e)))))
      · have e : vc.ownBlock = some q := e
        rw [h4] at e
        obtain rfl : g = q := Option.some.inj e
        exact Nat.le_trans h.fr.size h5
    · exact h.lo _ (.inr (.inr (.inr (.inr (.inl e)))))
    · have hr : r ∈ S.calls ++ [newCall S k w.heap.size 65636 7 1 2 ⟨#[97, 98, 99, 100]⟩] := hr
      rw [hc, List.nil_append, List.mem_singleton] at hr
      subst hr
      have := h.fr.size
      simp only [CallR.blocks, newCall, List.mem_cons, List.not_mem_nil, or_false] at hm
      omega
  · rcases e with rfl | e
    · have := h.lo _ (.inl rfl); omega
    · have := h.lo _ (.inr (.inr (.inr (.inl e)))); omega
  · refine ⟨?_, ?_, (by decide : (0 : Int) ≤ 0), (by decide : (0 : Int) ≤ 4611686018427387904), (by decide : (4 : Nat) ≤ 140737488351232)⟩
    · show 0 ≤ S.now
      rw [h.now]; decide
    · show S.now ≤ _
      rw [h.now]; decide
theorem due_0 {w0 w : World} {b : Nat} {S : CliS} {r : CallR} (h : Aw w0 b S w) (hg : ErrT w) (hc : S.calls = [r]) (hN : CallN r) (hi : r.iss = 0) (hd : r.done = 0) (hgv : r.given = 0) (hdst : r.dst = 65636) :
    Calls Tryz.prog 50 #[.pointer (some ⟨b, 0, none⟩)] w fun e w' => ∃ gl cur p, e = .returned (.slice (some ⟨gl, 0, none⟩) 1 1) ∧ w'.heap[gl]? = some (.cells cur 118 (0, 0)) ∧ cur.toList.take 3 = [.int .i64 65537, .int .i64 65636, p] ∧ ∃ S2 r2, Aw w0 b S2 w' ∧ S2.next = S.next ∧ S2.calls = [r2] ∧ CallN r2 ∧ r2.seq = r.seq ∧ r2.iss = 0 ∧ r2.done = 1 := by
  have hdm : dueM S.cfg.pace r.iss S.now = 1 := by rw [h.cfg, hi, h.now]; exact due0
  have hdc : dueCall S.cfg.pace S.now r = { r with done := 1, first := S.now, given := 1 } := dueCall_0 _ _ _ 1 hdm.symm (by omega) hgv
  have hout : dueOuts S (waterM S) S.calls = [⟨65537, 65636, requestM S r (waterM S)⟩] := by
    unfold dueOuts
    rw [hc, List.flatMap_cons, List.flatMap_nil, List.append_nil]
    unfold dueOut
    rw [hdm, if_neg (by omega), hdst, h.cfg]
    rfl
  refine (Due_any h.cli hg (by rw [h.cfg]; exact right0) (fun q hq => by rw [hc] at hq; rw [List.mem_singleton.1 hq]; exact hN) (by rw [hc]; simp) (by rw [h.cfg]; decide) (by rw [h.cfg]; decide)).mono ?_
  rintro e w' ⟨A, rfl, hc2, hrow, hf⟩
  rw [hout] at hrow ⊢
  rcases hrow with ⟨_, h0⟩ | ⟨gl, cur, rfl, h1, h2, h3, h4⟩
  · cases h0
  refine ⟨gl, cur, _, rfl, h2, h4, _, _, ⟨hc2, h.cfg, h.now, h.outs, fun q hq => ?_, h.fr.then hf (fun i hi e => ?_)⟩, rfl, by show S.calls.map _ = _; rw [hc]; rfl, ?_, ?_, ?_, ?_⟩
  · rcases hq with rfl | rfl | ⟨a, ha, rfl⟩ | e | e | ⟨q', hq', hm⟩
    · exact h.lo _ (.inl rfl)
    · exact h.lo _ (.inr (.inl rfl))
    · exact h.lo _ (.inr (.inr (.inl ⟨a, ha, rfl⟩)))
    · exact h.lo _ (.inr (.inr (.inr (.inl e))))
    · exact h.lo _ (.inr (.inr (.inr (.inr (.inl e)))))
    · obtain ⟨q0, h0, rfl⟩ := List.mem_map.1 (show q' ∈ S.calls.map _ from hq')
      exact h.lo _ (.inr (.inr (.inr (.inr (.inr ⟨q0, h0, by rw [← (dueCall_same S.cfg.pace S.now q0).blocks]; exact hm⟩)))))
  · obtain ⟨q0, h0, rfl⟩ := e
    have := h.lo q0.k (.inr (.inr (.inr (.inr (.inr ⟨q0, h0, by simp [CallR.blocks]⟩)))))
    omega
  · rw [hdc]; exact ⟨hN.i0, hN.i1, (by decide : (0 : Int) ≤ 1), (by decide : (1 : Int) ≤ 4611686018427387904), hN.ar⟩
  · rw [hdc]
  · rw [hdc]; exact hi
  · rw [hdc]
theorem due_1 {w0 w : World} {b : Nat} {S : CliS} {r : CallR} (h : Aw w0 b S w) (hg : ErrT w) (hc : S.calls = [r]) (hN : CallN r) (hi : r.iss = 0) (hd : r.done = 1) :
    Calls Tryz.prog 50 #[.pointer (some ⟨b, 0, none⟩)] w fun e w' => ∃ A, e = .returned (.slice A 0 0) ∧ Aw w0 b S w' ∧ ∀ q, (∀ r' ∈ S.calls, q ≠ r'.k) → q < w.heap.size → w'.heap[q]? = w.heap[q]? := by
  have hdm : dueM S.cfg.pace r.iss S.now = 1 := by rw [h.cfg, hi, h.now]; exact due0
  have hdc : dueCall S.cfg.pace S.now r = r := by unfold dueCall; rw [hdm, if_pos (by omega)]
  have hout : dueOuts S (waterM S) S.calls = [] := by
    unfold dueOuts
    rw [hc, List.flatMap_cons, List.flatMap_nil, List.append_nil]
    unfold dueOut
    rw [hdm, if_pos (by omega)]
  refine (Due_any h.cli hg (by rw [h.cfg]; exact right0) (fun q hq => by rw [hc] at hq; rw [List.mem_singleton.1 hq]; exact hN) (by rw [hc]; simp) (by rw [h.cfg]; decide) (by rw [h.cfg]; decide)).mono ?_
  rintro e w' ⟨A, rfl, hc2, hrow, hf⟩
  rw [hout]
  have hm : S.calls.map (dueCall S.cfg.pace S.now) = S.calls := by rw [hc, List.map_cons, hdc]; rfl
  rw [hm] at hc2
  refine ⟨A, rfl, ⟨hc2, h.cfg, h.now, h.outs, h.lo, h.fr.then hf (fun i hi e => ?_)⟩, fun q hq hlt => hf.block q hlt (by rintro ⟨r', hr', e⟩; exact hq r' hr' e)⟩
  obtain ⟨q0, h0, rfl⟩ := e
  have := h.lo q0.k (.inr (.inr (.inr (.inr (.inr ⟨q0, h0, by simp [CallR.blocks]⟩)))))
  omega
end Go.Proofs.YtbegjpmifcnieaaGreatDoor

/- callboxlaw17.awake: the chapter's first example tells true. -/
namespace Go.Proofs.YtbegjpmifcnieaaGreatDoor
open Go.RowKit
set_option linter.unusedVariables false
set_option linter.unusedSimpArgs false

/-- what is left at the end. -/
theorem AwI.done {w0 w : World} {b : Nat} {r : CallR} {gl : Nat} {cur : Array Value} (h : AwI w0 b 22 r gl cur w) :
    Calls Tryz.prog 52 #[.pointer (some ⟨b, 0, none⟩)] w fun e w' => ∃ go cu, e = .returned (.slice (some ⟨go, 0, none⟩) 1 1) ∧ w'.heap[go]? = some (.cells cu 146 (0, 0)) ∧ cu.toList.take 9 = [.int .i64 9, .int .i64 2, .int .i64 0, .int .i64 0, .int .i64 0, .int .i64 0, .int .i64 0, .string ByteArray.empty, .int .i64 22] ∧
      (∃ S, Cli w' b S ∧ S.next = 10 ∧ S.now = 22 ∧ S.calls = []) ∧ Fr (fun _ => False) w0 w' ∧ w'.heap[gl]? = some (.cells cur 118 (0, 0)) := by
  obtain ⟨S, hc, hcfg, hnx, hnow, _, hl, hlo⟩ := h.st
  obtain ⟨hcalls, houts⟩ := hl (Nat.le_refl _)
  refine (Done_any hc).mono ?_
  rintro e w' ⟨A, rfl, hc2, hrow, _, hf⟩
  rw [houts] at hrow ⊢
  rcases hrow with ⟨_, h0⟩ | ⟨go, cu, rfl, h1, h2, h3, h4⟩
  · cases h0
  refine ⟨go, cu, rfl, h2, h4, ⟨_, hc2, hnx, hnow, hcalls⟩, h.fr.then hf (fun i hi e => ?_), (hf.block _ (lt_of_block h.row) ?_).trans h.row⟩
  · have := hlo b (.inl rfl)
    omega
  · intro e
    have := h.row
    rw [e, hc.box] at this
    simp at this
theorem take_cell {cu : Array Value} {n : Nat} {l : List Value} (h : cu.toList.take n = l) {j : Nat} (hj : j < l.length) : cu[j]? = some l[j] := by
  have h1 : (cu.toList.take n)[j]? = some l[j] := by rw [h]; exact List.getElem?_eq_getElem hj
  rw [List.getElem?_take] at h1
  split at h1
  · simpa using h1
  · cases h1

set_option maxRecDepth 100000 in
set_option maxHeartbeats 4000000 in
theorem awake17_any (w : World) (hg : ErrT w) : Calls Tryz.prog 11 #[] w fun r w' => r = .returned (.bool true) ∧ Fr (fun _ => False) w w' := by
  have HG := Lib.hid hg
  clear hg
  go_enter Tryz.func11, Tryz.ntmps11
  go_wp2_with fail
  refine (config_any _).mono ?_
  rintro e w1 ⟨rfl, hf1⟩
  have HF1 := Lib.hid hf1
  clear hf1
  unfold cfgCells cfg0
  go_wp2_with fail
  refine (new0 w w1 HF1.out (HG.out.fr HF1.out id)).mono ?_
  rintro e w2 ⟨b, rfl, S1, hA1, hn1, hc1⟩
  have HA1 := Lib.hid hA1
  have HN1 := Lib.hid (And.intro hn1 hc1)
  clear hA1 hn1 hc1 HF1
  go_wp2_with fail
  refine (newZ w2 (HG.out.fr HA1.out.fr id)).mono ?_
  rintro e w3 ⟨rfl, hf3⟩
  have HA3 := Lib.hid (HA1.out.grown hf3)
  clear hf3 HA1
  go_wp2_with fail
  refine (call0 HA3.out HN1.out.1 HN1.out.2).mono ?_
  rintro e w4 ⟨rfl, S4, r4, hA4, hn4, hc4, hN4, r0, r1, r2, r3, r5⟩
  have HA4 := Lib.hid hA4
  have HC4 := Lib.hid (And.intro hn4 (And.intro hc4 (And.intro hN4 (And.intro r0 (And.intro r1 (And.intro r2 (And.intro r3 r5)))))))
  clear hA4 hn4 hc4 hN4 r0 r1 r2 r3 r5 HA3 HN1
  go_wp2_with fail
  refine (due_0 HA4.out (HG.out.fr HA4.out.fr id) HC4.out.2.1 HC4.out.2.2.1 HC4.out.2.2.2.2.1 HC4.out.2.2.2.2.2.1 HC4.out.2.2.2.2.2.2.1 HC4.out.2.2.2.2.2.2.2).mono ?_
  rintro e w5 ⟨gl, cur, pk, rfl, hgl, htk, S5, r6, hA5, hn5, hc5, hN5, q0, q1, q2⟩
  have HA5 := Lib.hid hA5
  have HR5 := Lib.hid (And.intro hgl htk)
  have HC5 := Lib.hid (And.intro (hn5.trans HC4.out.1) (And.intro hc5 (And.intro hN5 (And.intro (q0.trans HC4.out.2.2.2.1) (And.intro q1 q2)))))
  clear hgl htk hA5 hn5 hc5 hN5 q0 q1 q2 HA4 HC4
  go_wp2_with fail
  refine (due_1 HA5.out (HG.out.fr HA5.out.fr id) HC5.out.2.1 HC5.out.2.2.1 HC5.out.2.2.2.2.1 HC5.out.2.2.2.2.2).mono ?_
  rintro e w6 ⟨A6, rfl, hA6, hst⟩
  have HI : Hid (AwI w b 0 r6 gl cur w6) := Lib.hid ⟨⟨S5, hA6.cli, hA6.cfg, HC5.out.1, hA6.now, fun _ => ⟨HC5.out.2.1, hA6.outs⟩, fun h => by omega, hA6.lo⟩, hA6.fr, (hst gl (fun r' hr' e => by
    have h1 := (HA5.out.cli.rest.each r' hr').box
    rw [← e, HR5.out.1] at h1
    simp at h1) (lt_of_block HR5.out.1)).trans HR5.out.1⟩
  have HTK := Lib.hid HR5.out.2
  have HCN := Lib.hid (And.intro HC5.out.2.2.1 (And.intro HC5.out.2.2.2.1 HC5.out.2.2.2.2.1))
  clear hA6 hst HA5 HR5 HC5
  go_wp2_with fail
  go_loopw [9] (fun i wr => ∃ k : Nat, k ≤ 22 ∧ i = .int .i64 k ∧ Hid (AwI w b k r6 gl cur wr)) (fun i _ => 22 - (intOf i).toNat)
  case atStart => exact ⟨0, by omega, rfl, HI⟩
  case round =>
    obtain ⟨k, hk, rfl, hI⟩ := hrel
    clear HI
    by_cases hlt : k < 22
    · have HT := Lib.hid (hI.out.tick hlt HCN.out.2.1 HCN.out.2.2 HCN.out.1)
      go_wp2_with (go_at_call 51; refine HT.out.mono ?_; rintro e w7 ⟨rfl, hI7⟩; have HI7 := Lib.hid hI7; clear hI7)
      exact ⟨⟨k + 1, by omega, by go_num, HI7⟩, by simp [intOf]; omega⟩
    · obtain rfl : k = 22 := by omega
      have HD := Lib.hid hI.out.done
      go_wp2_with fail
      refine HD.out.mono ?_
      rintro e w8 ⟨go, cu, rfl, hgo, hco, ⟨S8, hc8, hn8, hnow8, hcalls8⟩, hf8, hgl8⟩
      have p0 : w8.cell? ⟨gl, 0, none⟩ = some (.int .i64 65537) := (cellOf hgl8 0).trans (take_cell HTK.out (j := 0) (by simp))
      have p1 : w8.cell? ⟨gl, 1, none⟩ = some (.int .i64 65636) := (cellOf hgl8 1).trans (take_cell HTK.out (j := 1) (by simp))
      have o0 : w8.cell? ⟨go, 0, none⟩ = some (.int .i64 9) := (cellOf hgo 0).trans (take_cell hco (j := 0) (by decide))
      have o1 : w8.cell? ⟨go, 1, none⟩ = some (.int .i64 2) := (cellOf hgo 1).trans (take_cell hco (j := 1) (by decide))
      have o2 : w8.cell? ⟨go, 2, none⟩ = some (.int .i64 0) := (cellOf hgo 2).trans (take_cell hco (j := 2) (by decide))
      have o3 : w8.cell? ⟨go, 3, none⟩ = some (.int .i64 0) := (cellOf hgo 3).trans (take_cell hco (j := 3) (by decide))
      have o4 : w8.cell? ⟨go, 4, none⟩ = some (.int .i64 0) := (cellOf hgo 4).trans (take_cell hco (j := 4) (by decide))
      have o5 : w8.cell? ⟨go, 5, none⟩ = some (.int .i64 0) := (cellOf hgo 5).trans (take_cell hco (j := 5) (by decide))
      have o6 : w8.cell? ⟨go, 6, none⟩ = some (.int .i64 0) := (cellOf hgo 6).trans (take_cell hco (j := 6) (by decide))
      have o7 : w8.cell? ⟨go, 7, none⟩ = some (.string ByteArray.empty) := (cellOf hgo 7).trans (take_cell hco (j := 7) (by decide))
      have o8 : w8.cell? ⟨go, 8, none⟩ = some (.int .i64 22) := (cellOf hgo 8).trans (take_cell hco (j := 8) (by decide))
      have hw8 : waterM S8 = 10 := by unfold waterM; rw [hcalls8]; exact hn8
      have HW := Lib.hid (Water_any hc8)
      have HNw := Lib.hid (Now_any hc8)
      rw [hw8] at HW
      rw [hnow8] at HNw
      have HF8 := Lib.hid hf8
      clear hgo hco hc8 hn8 hnow8 hcalls8 hf8 hgl8 hw8 HD HTK hI
      go_wp2_with (first
        | (go_at_call 53; refine HW.out.mono ?_; rintro e w9 ⟨rfl, hw⟩; obtain rfl : w8 = w9 := hw.symm)
        | (go_at_call 54; refine HNw.out.mono ?_; rintro e w9 ⟨rfl, hw⟩; obtain rfl : w8 = w9 := hw.symm))
      go_ret
      exact ⟨rfl, HF8.out⟩
end Go.Proofs.YtbegjpmifcnieaaGreatDoor
