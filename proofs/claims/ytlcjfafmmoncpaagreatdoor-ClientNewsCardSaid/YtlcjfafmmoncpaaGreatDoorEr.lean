/- callboxlaw17: a client's first calls, in plain Lean. -/
import Derived.Test.YtlcjfafmmoncpaaGreatDoorEp
import Derived.Test.YtlcjfafmmoncpaaGreatDoorEq
namespace Go.Proofs.YtlcjfafmmoncpaaGreatDoor
open Go.RowKit
set_option linter.unusedVariables false
set_option linter.unusedSimpArgs false

theorem total0 : totalM cfg0.pace = 22 := by decide
theorem due0 : dueM cfg0.pace 0 0 = 1 := by decide
theorem right0 : Right cfg0.pace := (right_iff _).1 (by decide)
def abcd : ByteArray := ⟨#[97, 98, 99, 100]⟩
def out0 : OutM := ⟨9, 2, 0, 0, 0, 0, 0, ByteArray.empty, 22⟩

theorem NewCli.cli {c : CfgM} {w w' : World} {b : Nat} (h : NewCli c w w' b) : ∃ S, Cli w' b S ∧ S.cfg = c ∧ S.next = c.first ∧ S.now = 0 ∧ S.calls = [] ∧ S.outs = [] ∧ S.vc = .slice none 0 0 ∧ S.vo = .slice none 0 0 ∧ (∀ q, Foot b S q → w.heap.size ≤ q) := by
  obtain ⟨A, n, m, h1, h2, h3, h4, h5, h6, h7⟩ := h
  refine ⟨⟨c, A, n, c.first, 0, [], .slice none 0 0, [], .slice none 0 0, m, false, 0, 0⟩, ⟨h4, ⟨h5, h6, fun a ha => ⟨(h7 a ha).2.1, fun x hx => ?_⟩, ⟨rfl, .inl ⟨rfl, rfl⟩⟩, ⟨rfl, .inl ⟨rfl, rfl⟩⟩, fun r hr => (by cases hr), List.nodup_nil⟩⟩, rfl, rfl, rfl, rfl, rfl, rfl, rfl, fun q hq => ?_⟩
  · obtain ⟨y, hy⟩ := (h7 a ha).2.2.2.2
    rw [hy] at hx
    exact ⟨y, (Option.some.inj hx).symm⟩
  · rcases hq with rfl | rfl | ⟨a, ha, rfl⟩ | e | e | ⟨r, hr, _⟩
    · exact h1
    · exact h2
    · exact (h7 a ha).1
    · cases e
    · cases e
    · cases hr

/-- behind k ticks. -/
structure AwI (w0 : World) (b k : Nat) (r : CallR) (gl : Nat) (cur : Array Value) (w : World) : Prop where
  st : ∃ S, Cli w b S ∧ S.cfg = cfg0 ∧ S.next = 10 ∧ S.now = k ∧ (k < 22 → S.calls = [r] ∧ S.outs = []) ∧ (22 ≤ k → S.calls = [] ∧ S.outs = [out0]) ∧ (∀ q, Foot b S q → w0.heap.size ≤ q)
  fr : Fr (fun _ => False) w0 w
  row : w.heap[gl]? = some (.cells cur 78 (0, 0))

theorem AwI.tick {w0 w : World} {b k : Nat} {r : CallR} {gl : Nat} {cur : Array Value} (h : AwI w0 b k r gl cur w) (hk : k < 22) (h0 : r.seq = 9) (h1 : r.iss = 0) (hN : CallN r) :
    Calls Tryz.prog 38 #[.pointer (some ⟨b, 0, none⟩)] w fun e w' => e = .returned (.tuple #[]) ∧ AwI w0 b (k + 1) r gl cur w' := by
  obtain ⟨S, hc, hcfg, hnx, hnow, hl, _, hlo⟩ := h.st
  obtain ⟨hcalls, houts⟩ := hl hk
  refine (Tick_any hc (by rw [hnow]; omega) (by rw [hnow]; omega) (fun q hq => by rw [hcalls] at hq; rw [List.mem_singleton.1 hq]; exact hN) (by rw [hcalls]; simp) (by rw [houts]; simp)).mono ?_
  rintro e w' ⟨rfl, vc, vo, hc2, hv, ho, hf⟩
  refine ⟨rfl, ⟨_, hc2, hcfg, hnx, ?_, fun hk2 => ?_, fun hk2 => ?_, fun q hq => ?_⟩, h.fr.then hf (fun i hi e => ?_), ?_⟩
  · show S.now + 1 = _
    rw [hnow]; omega
  · have hov : overB S.cfg.pace (S.now + 1) r = false := by
      unfold overB
      rw [hcfg, total0, h1, hnow]
      exact decide_eq_false (by omega)
    constructor
    · show tickCalls S.cfg.pace (S.now + 1) S.calls S.calls.length = _
      rw [hcalls]
      unfold tickCalls
      simp [hov]
    · show tickOuts { S with now := S.now + 1 } S.calls.length = _
      unfold tickOuts
      show S.outs ++ ((S.calls.take S.calls.length).filter (overB S.cfg.pace (S.now + 1))).map _ = _
      rw [hcalls, houts]
      simp [hov]
  · have hk21 : k = 21 := by omega
    have hov : overB S.cfg.pace (S.now + 1) r = true := by
      unfold overB
      rw [hcfg, total0, h1, hnow, hk21]
      decide
    constructor
    · show tickCalls S.cfg.pace (S.now + 1) S.calls S.calls.length = _
      rw [hcalls]
      unfold tickCalls
      simp [hov]
    · show tickOuts { S with now := S.now + 1 } S.calls.length = _
      unfold tickOuts
      show S.outs ++ ((S.calls.take S.calls.length).filter (overB S.cfg.pace (S.now + 1))).map _ = _
      rw [hcalls, houts]
      simp only [List.length_singleton, List.take_succ_cons, List.take_zero, List.filter_cons_of_pos hov, List.filter_nil, List.map_cons, List.map_nil, List.nil_append]
      unfold outOf timeoutO out0
      rw [h0]
      show [OutM.mk 9 2 0 0 0 0 0 ByteArray.empty (S.now + 1)] = _
      rw [hnow, hk21]
      rfl
  · have hfoot : ∀ q, RFoot S q → w0.heap.size ≤ q := fun q hq => hlo q (.inr hq)
    rcases hq with rfl | rfl | ⟨a, ha, rfl⟩ | e | e | ⟨q', hq', hm⟩
    · exact hlo _ (.inl rfl)
    · exact hfoot _ (.inl rfl)
    · exact hfoot _ (.inr (.inl ⟨a, ha, rfl⟩))
    · exact hfoot _ (.inr (.inr (.inl (hv ▸ e))))
    · rcases ho with h4 | ⟨g, h4, h5⟩
      · exact hfoot _ (.inr (.inr (.inr (.inl (h4 ▸ e)))))
      · have e : vo.ownBlock = some q := e
        rw [h4] at e
        obtain rfl : g = q := Option.some.inj e
        exact Nat.le_trans h.fr.size h5
    · have hq2 : q' ∈ tickCalls S.cfg.pace (S.now + 1) S.calls S.calls.length := hq'
      unfold tickCalls at hq2
      rw [List.take_length, List.drop_length, List.append_nil] at hq2
      exact hfoot _ (.inr (.inr (.inr (.inr ⟨q', (List.mem_filter.1 hq2).1, hm⟩))))
  · rcases e with rfl | e | e
    · have := hlo _ (.inl rfl); omega
    · have := hlo _ (.inr (.inr (.inr (.inl e)))); omega
    · have := hlo _ (.inr (.inr (.inr (.inr (.inl e))))); omega
  · refine (hf.block _ (lt_of_block h.row) ?_).trans h.row
    rintro (e | e | e)
    · have := h.row
      rw [e, hc.box] at this
      simp at this
    · exact hc.rest.vc_ne h.row (by decide) e
    · exact hc.rest.vo_ne h.row (by decide) e
end Go.Proofs.YtlcjfafmmoncpaaGreatDoor
