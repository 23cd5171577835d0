/- callboxlaw17: a client's first calls, step by step. -/
import Derived.Test.YtlcjfafmmoncpaaGreatDoorEr
namespace Go.Proofs.YtlcjfafmmoncpaaGreatDoor
open Go.RowKit
set_option linter.unusedVariables false
set_option linter.unusedSimpArgs false

/-- a client of the chapter's config, made in the call, whose time stands at 0. -/
structure Aw (w0 : World) (b : Nat) (S : CliS) (w : World) : Prop where
  cli : Cli w b S
  cfg : S.cfg = cfg0
  now : S.now = 0
  outs : S.outs = []
  lo : ∀ q, Foot b S q → w0.heap.size ≤ q
  fr : Fr (fun _ => False) w0 w
theorem new0 (w0 w : World) (hf : Fr (fun _ => False) w0 w) (hg : ErrT w) :
    Calls Tryz.prog 34 #[.agg #[.int .i64 65537, .int .i64 5, .int .i64 9, .int .i64 2, .int .i64 2, .int .i64 8, .int .i64 4, .int .i64 0, .string ⟨#[]⟩, .int .i64 0, .int .i64 0, .slice none 0 0]] w fun r w' => ∃ b, r = .returned (.tuple #[.pointer (some ⟨b, 0, none⟩), .int .i64 0]) ∧ ∃ S, Aw w0 b S w' ∧ S.next = 9 ∧ S.calls = [] := by
  refine Calls.mono (show Calls Tryz.prog 34 #[.agg (cfgCells cfg0 none 0)] w _ from New_yes cfg0 none 0 w (.inl rfl) hg (fun a ha => by cases ha) (Nat.zero_le _) (Nat.zero_le _) cfg0_may) ?_
  rintro e w' ⟨b, rfl, hf2, hn⟩
  obtain ⟨S, hc, h1, h2, h3, h4, h5, _, _, h6⟩ := hn.cli
  exact ⟨b, rfl, S, ⟨hc, h1, h3, h5, fun q hq => Nat.le_trans hf.size (h6 q hq), hf.trans hf2⟩, h2, h4⟩
theorem newZ (w : World) (hg : ErrT w) :
    Calls Tryz.prog 34 #[.agg #[.int .i64 0, .int .i64 0, .int .i64 0, .int .i64 0, .int .i64 0, .int .i64 0, .int .i64 0, .int .i64 0, .string ⟨#[]⟩, .int .i64 0, .int .i64 0, .slice none 0 0]] w fun r w' => r = .returned (.tuple #[.pointer none, .int .i64 170]) ∧ Fr (fun _ => False) w w' :=
  show Calls Tryz.prog 34 #[.agg (cfgCells cfgZ none 0)] w _ from New_no cfgZ none 0 w (.inl rfl) hg (fun a ha => by cases ha) (Nat.zero_le _) (Nat.zero_le _) cfgZ_not
theorem Aw.grown {w0 w w' : World} {b : Nat} {S : CliS} (h : Aw w0 b S w) (hf : Fr (fun _ => False) w w') : Aw w0 b S w' := ⟨h.cli.grown hf, h.cfg, h.now, h.outs, h.lo, h.fr.trans hf⟩
theorem call0 {w0 w : World} {b : Nat} {S : CliS} (h : Aw w0 b S w) (hn : S.next = 9) (hc : S.calls = []) :
    Calls Tryz.prog 36 #[.pointer (some ⟨b, 0, none⟩), .int .i64 65636, .int .i64 7, .int .i64 1, .int .i64 2, .string ⟨#[97, 98, 99, 100]⟩] w fun e w' => e = .returned (.tuple #[.int .i64 9, .int .i64 0]) ∧ ∃ S2 r, Aw w0 b S2 w' ∧ S2.next = 10 ∧ S2.calls = [r] ∧ CallN r ∧ r.seq = 9 ∧ r.iss = 0 ∧ r.done = 0 ∧ r.given = 0 ∧ r.dst = 65636 := by
  have hw : waterM S = 9 := by unfold waterM; rw [hc]; exact hn
  have hcn : CliN S := ⟨by omega, by omega, by omega, by omega, by rw [hc]; simp, by rw [h.outs]; simp, by rw [h.now]; decide, by rw [h.now]; decide⟩
  have hcm : CallMay S 65636 7 1 2 ⟨#[97, 98, 99, 100]⟩ := ⟨by decide, by decide, by decide, by decide, by decide, by decide, by rw [hw, hn, h.cfg]; decide, by rw [hn]; decide⟩
  refine (Call_ok h.cli hcn 65636 7 1 2 ⟨#[97, 98, 99, 100]⟩ hcm).mono ?_
  rintro e w' ⟨rfl, k, vc, hk, hc2, hv, hf⟩
  refine ⟨by rw [hn], _, newCall S k w.heap.size 65636 7 1 2 ⟨#[97, 98, 99, 100]⟩, ⟨hc2, h.cfg, h.now, h.outs, fun q hq => ?_, h.fr.then hf (fun i hi e => ?_)⟩, by show S.next + 1 = 10; omega, by show S.calls ++ _ = _; rw [hc]; rfl, ?_, hn, h.now, rfl, rfl, rfl⟩
  · rcases hq with rfl | rfl | ⟨a, ha, rfl⟩ | e | e | ⟨r, hr, hm⟩
    · exact h.lo _ (.inl rfl)
    · exact h.lo _ (.inr (.inl rfl))
    · exact h.lo _ (.inr (.inr (.inl ⟨a, ha, rfl⟩)))
    · rcases hv with h4 | ⟨g, h4, h5⟩
      · exact h.lo _ (.inr (.inr (.inr (.inl (h4 ▸ e)))))
      · have e : vc.ownBlock = some q := e
        rw [h4] at e
        obtain rfl : g = q := Option.some.inj e
        exact Nat.le_trans h.fr.size h5
    · exact h.lo _ (.inr (.inr (.inr (.inr (.inl e)))))
    · have hr : r ∈ S.calls ++ [newCall S k w.heap.size 65636 7 1 2 ⟨#[97, 98, 99, 100]⟩] := hr
      rw [hc, List.nil_append, List.mem_singleton] at hr
      subst hr
      have := h.fr.size
      simp only [CallR.blocks, newCall, List.mem_cons, List.not_mem_nil, or_false] at hm
      omega
  · rcases e with rfl | e
    · have := h.lo _ (.inl rfl); omega
    · have := h.lo _ (.inr (.inr (.inr (.inl e)))); omega
  · refine ⟨?_, ?_, (by decide : (0 : Int) ≤ 0), (by decide : (0 : Int) ≤ 4611686018427387904), (by decide : (4 : Nat) ≤ 140737488351232)⟩
    · show 0 ≤ S.now
      rw [h.now]; decide
    · show S.now ≤ _
      rw [h.now]; decide
theorem due_0 {w0 w : World} {b : Nat} {S : CliS} {r : CallR} (h : Aw w0 b S w) (hg : ErrT w) (hc : S.calls = [r]) (hN : CallN r) (hi : r.iss = 0) (hd : r.done = 0) (hgv : r.given = 0) (hdst : r.dst = 65636) :
    Calls Tryz.prog 37 #[.pointer (some ⟨b, 0, none⟩)] w fun e w' => ∃ gl cur p, e = .returned (.slice (some ⟨gl, 0, none⟩) 1 1) ∧ w'.heap[gl]? = some (.cells cur 78 (0, 0)) ∧ cur.toList.take 3 = [.int .i64 65537, .int .i64 65636, p] ∧ ∃ S2 r2, Aw w0 b S2 w' ∧ S2.next = S.next ∧ S2.calls = [r2] ∧ CallN r2 ∧ r2.seq = r.seq ∧ r2.iss = 0 ∧ r2.done = 1 := by
  have hdm : dueM S.cfg.pace r.iss S.now = 1 := by rw [h.cfg, hi, h.now]; exact due0
  have hdc : dueCall S.cfg.pace S.now r = { r with done := 1, first := S.now, given := 1 } := dueCall_0 _ _ _ 1 hdm.symm (by omega) hgv
  have hout : dueOuts S (waterM S) S.calls = [⟨65537, 65636, requestM S r (waterM S)⟩] := by
    unfold dueOuts
    rw [hc, List.flatMap_cons, List.flatMap_nil, List.append_nil]
    unfold dueOut
    rw [hdm, if_neg (by omega), hdst, h.cfg]
    rfl
  refine (Due_any h.cli hg (by rw [h.cfg]; exact right0) (fun q hq => by rw [hc] at hq; rw [List.mem_singleton.1 hq]; exact hN) (by rw [hc]; simp) (by rw [h.cfg]; decide) (by rw [h.cfg]; decide)).mono ?_
  rintro e w' ⟨A, rfl, hc2, hrow, hf⟩
  rw [hout] at hrow ⊢
  rcases hrow with ⟨_, h0⟩ | ⟨gl, cur, rfl, h1, h2, h3, h4⟩
  · cases h0
  refine ⟨gl, cur, _, rfl, h2, h4, _, _, ⟨hc2, h.cfg, h.now, h.outs, fun q hq => ?_, h.fr.then hf (fun i hi e => ?_)⟩, rfl, by show S.calls.map _ = _; rw [hc]; rfl, ?_, ?_, ?_, ?_⟩
  · rcases hq with rfl | rfl | ⟨a, ha, rfl⟩ | e | e | ⟨q', hq', hm⟩
    · exact h.lo _ (.inl rfl)
    · exact h.lo _ (.inr (.inl rfl))
    · exact h.lo _ (.inr (.inr (.inl ⟨a, ha, rfl⟩)))
    · exact h.lo _ (.inr (.inr (.inr (.inl e))))
    · exact h.lo _ (.inr (.inr (.inr (.inr (.inl e)))))
    · obtain ⟨q0, h0, rfl⟩ := List.mem_map.1 (show q' ∈ S.calls.map _ from hq')
      exact h.lo _ (.inr (.inr (.inr (.inr (.inr ⟨q0, h0, by rw [← (dueCall_same S.cfg.pace S.now q0).blocks]; exact hm⟩)))))
  · obtain ⟨q0, h0, rfl⟩ := e
    have := h.lo q0.k (.inr (.inr (.inr (.inr (.inr ⟨q0, h0, by simp [CallR.blocks]⟩)))))
    omega
  · rw [hdc]; exact ⟨hN.i0, hN.i1, (by decide : (0 : Int) ≤ 1), (by decide : (1 : Int) ≤ 4611686018427387904), hN.ar⟩
  · rw [hdc]
  · rw [hdc]; exact hi
  · rw [hdc]
theorem due_1 {w0 w : World} {b : Nat} {S : CliS} {r : CallR} (h : Aw w0 b S w) (hg : ErrT w) (hc : S.calls = [r]) (hN : CallN r) (hi : r.iss = 0) (hd : r.done = 1) :
    Calls Tryz.prog 37 #[.pointer (some ⟨b, 0, none⟩)] w fun e w' => ∃ A, e = .returned (.slice A 0 0) ∧ Aw w0 b S w' ∧ ∀ q, (∀ r' ∈ S.calls, q ≠ r'.k) → q < w.heap.size → w'.heap[q]? = w.heap[q]? := by
  have hdm : dueM S.cfg.pace r.iss S.now = 1 := by rw [h.cfg, hi, h.now]; exact due0
  have hdc : dueCall S.cfg.pace S.now r = r := by unfold dueCall; rw [hdm, if_pos (by omega)]
  have hout : dueOuts S (waterM S) S.calls = [] := by
    unfold dueOuts
    rw [hc, List.flatMap_cons, List.flatMap_nil, List.append_nil]
    unfold dueOut
    rw [hdm, if_pos (by omega)]
  refine (Due_any h.cli hg (by rw [h.cfg]; exact right0) (fun q hq => by rw [hc] at hq; rw [List.mem_singleton.1 hq]; exact hN) (by rw [hc]; simp) (by rw [h.cfg]; decide) (by rw [h.cfg]; decide)).mono ?_
  rintro e w' ⟨A, rfl, hc2, hrow, hf⟩
  rw [hout]
  have hm : S.calls.map (dueCall S.cfg.pace S.now) = S.calls := by rw [hc, List.map_cons, hdc]; rfl
  rw [hm] at hc2
  refine ⟨A, rfl, ⟨hc2, h.cfg, h.now, h.outs, h.lo, h.fr.then hf (fun i hi e => ?_)⟩, fun q hq hlt => hf.block q hlt (by rintro ⟨r', hr', e⟩; exact hq r' hr' e)⟩
  obtain ⟨q0, h0, rfl⟩ := e
  have := h.lo q0.k (.inr (.inr (.inr (.inr (.inr ⟨q0, h0, by simp [CallR.blocks]⟩)))))
  omega
end Go.Proofs.YtlcjfafmmoncpaaGreatDoor
