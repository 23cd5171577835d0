/- A client: Tick, Done. -/
import Derived.Test.YtlcjfafmmoncpaaGreatDoorEn
import Derived.Test.YtlcjfafmmoncpaaGreatDoorEl
import Derived.Test.YtlcjfafmmoncpaaGreatDoorEi
import Derived.Shelf.SlicesE.Clone
import Derived.Deep.RegionHeld3
import Derived.IntWalk
namespace Go.Proofs.YtlcjfafmmoncpaaGreatDoor
open Go.RowKit
set_option linter.unusedVariables false
set_option linter.unusedSimpArgs false

theorem clone_calls {w : World} {b : Nat} {S : CliS} (h : Cli w b S) (hl : S.calls.length ≤ 1099511627776) :
    Calls Tryz.prog 110 #[S.vc] w fun e w' => ∃ A c, e = .returned (.slice A S.calls.length c) ∧ w'.ownsRow w.heap.size 139 1 (.slice A S.calls.length c) S.calls.length (S.calls.map fun r => ptrV r.k) ∧ Below w.heap.size w w' := by
  obtain ⟨i0, hi0, hz0, hz1, hz2⟩ := info_parts Tryz.infoPCall
  rcases h.rest.own.2 with ⟨h0, h1⟩ | ⟨g, cap, cur, h0, h1, h2, h3, h4, h5, h6⟩
  · rw [h0]
    refine Calls.mono (show Calls Tryz.prog 110 _ _ _ from AnyE.slices_Clone_nil Tryz.laysClP 0 0 w) ?_
    rintro e w' ⟨rfl, rfl⟩
    have hc : S.calls = [] := List.length_eq_zero_iff.1 h1
    rw [hc]
    exact ⟨none, 0, rfl, ⟨by simp, .inl ⟨rfl, rfl⟩⟩, Below.refl _ _⟩
  · have ho := h.rest.own
    rw [h0] at ho ⊢
    refine Calls.mono (show Calls Tryz.prog 110 _ _ _ from AnyE.slices_Clone Tryz.laysClP i0 _ 1 8 hi0 hz0 hz1 hz2 rfl (by decide) Tryz.sizeOf139 g 0 S.calls.length cap (S.calls.map fun r => ptrV r.k) w (by simp) (by unfold maxLen; omega) (by omega)
      (fun j u hj => by rw [Nat.zero_add]; exact row_cell ho rfl j u hj) (fun u hu => by obtain ⟨y, _, rfl⟩ := List.mem_map.1 hu; rfl)) ?_
    rintro e w' ⟨v, rfl, hv, _, hb⟩
    obtain ⟨A, c, rfl⟩ := owns_slice hv
    exact ⟨A, c, rfl, hv, hb⟩

theorem ClipO_any (A : Option Addr) (n c : Nat) (w : World) (hn : n ≤ c) (hc : c ≤ maxLen) : Calls Tryz.prog 113 #[.slice A n c] w fun r w' => r = .returned (.slice A n n) ∧ w' = w := by
  unfold maxLen at hc
  go_enter Tryz.func113, Tryz.ntmps113
  go_wp2
  go_ret
  exact ⟨rfl, rfl⟩

/-- Done: all outcomes, and none is left. -/
theorem Done_any {w : World} {b : Nat} {S : CliS} (h : Cli w b S) :
    Calls Tryz.prog 39 #[.pointer (some ⟨b, 0, none⟩)] w fun e w' => ∃ A, e = .returned (.slice A S.outs.length S.outs.length) ∧ Cli w' b { S with outs := [], vo := .slice none 0 0 } ∧ OutRow w' 0 80 9 A S.outs.length (outRow S.outs) ∧ (∀ a, A = some a → S.vo.ownBlock = some a.block) ∧ Fr (fun k => k = b) w w' := by
  have n15 := h.c15
  have f15 : w.frozen? ⟨b, 15, none⟩ = false := freeOf h.box 15
  obtain ⟨A, c, e⟩ := owns_slice h.rest.outs
  have ho := h.rest.outs
  rw [e] at ho n15
  have hcap : S.outs.length ≤ c ∧ c ≤ maxLen := by
    rcases ho.2 with ⟨h0, h1⟩ | ⟨q, cap, cur, h0, _, _, h2, h3, _⟩
    · injection h0 with _ h3 h4
      rw [h3, h4]
      exact ⟨Nat.le_refl _, Nat.zero_le _⟩
    · injection h0 with _ _ h4
      rw [h4]
      exact ⟨h2, h3⟩
  have hset := h.setOuts (.slice none 0 0) [] ⟨by simp [outRow], .inl ⟨rfl, rfl⟩⟩
  have hrow : OutRow (w.setCell ⟨b, 15, none⟩ (.slice none 0 0)) 0 80 9 A S.outs.length (outRow S.outs) := by
    rcases OutRow.of ho with h0 | ⟨g, cur, hA, h1, h2, h3, h4⟩
    · exact .inl h0
    · exact .inr ⟨g, cur, hA, h1, (Below.heap_setCell _ _ _ _ (fun e2 => by rw [show (⟨b, 15, none⟩ : Addr).block = b from rfl] at e2; rw [e2, h.box] at h2; simp at h2)).trans h2, h3, h4⟩
  have HS := Lib.hid (And.intro hset (And.intro hrow (And.intro (show ∀ a, A = some a → S.vo.ownBlock = some a.block from fun a ha => by rw [e, ha]; rfl) (show Fr (fun k => k = b) w (w.setCell ⟨b, 15, none⟩ (.slice none 0 0)) from (Fr.refl (fun k => k = b) w).setCell (p := ⟨b, 15, none⟩) (.inl rfl) _))))
  have HC := Lib.hid (fun w => ClipO_any A S.outs.length c w hcap.1 hcap.2)
  clear h ho hcap hset hrow e
  go_enter Tryz.func39, Tryz.ntmps39
  go_wp2_with (go_at_call 113; refine (HC.out _).mono ?_; rintro e w' ⟨rfl, hw⟩; obtain rfl : w = w' := hw.symm)
  go_ret
  exact ⟨A, rfl, HS.out⟩

/-- is a call's time over? -/
def overB (p : PaceM) (now : Int) (r : CallR) : Bool := decide (r.iss + totalM p ≤ now)
def timeoutO : OutM := ⟨0, 2, 0, 0, 0, 0, 0, ByteArray.empty, 0⟩
/-- behind k rounds of Tick: which calls are left, and which outcomes there are. -/
def tickCalls (p : PaceM) (now : Int) (l : List CallR) (k : Nat) : List CallR := (l.take k).filter (fun r => !overB p now r) ++ l.drop k
def tickOuts (S : CliS) (k : Nat) : List OutM := S.outs ++ ((S.calls.take k).filter (overB S.cfg.pace S.now)).map fun r => outOf S r timeoutO
def tickS (S : CliS) (k : Nat) (vc vo : Value) : CliS := { S with calls := tickCalls S.cfg.pace S.now S.calls k, outs := tickOuts S k, vc := vc, vo := vo }
theorem tickCalls_skip (p : PaceM) (now : Int) (l : List CallR) {k : Nat} (hk : k < l.length) (h : overB p now l[k] = false) : tickCalls p now l (k + 1) = tickCalls p now l k := by
  unfold tickCalls
  rw [List.take_succ_eq_append_getElem hk, List.filter_append, List.filter_cons_of_pos (by rw [h]; rfl), List.filter_nil, List.append_assoc, List.singleton_append, List.drop_eq_getElem_cons hk]
theorem tickOuts_skip (S : CliS) {k : Nat} (hk : k < S.calls.length) (h : overB S.cfg.pace S.now S.calls[k] = false) : tickOuts S (k + 1) = tickOuts S k := by
  unfold tickOuts
  rw [List.take_succ_eq_append_getElem hk, List.filter_append, List.filter_cons_of_neg (by rw [h]; decide), List.filter_nil, List.append_nil]
theorem tickOuts_over (S : CliS) {k : Nat} (hk : k < S.calls.length) (h : overB S.cfg.pace S.now S.calls[k] = true) : tickOuts S (k + 1) = tickOuts S k ++ [outOf S S.calls[k] timeoutO] := by
  unfold tickOuts
  rw [List.take_succ_eq_append_getElem hk, List.filter_append, List.filter_cons_of_pos h, List.filter_nil, List.map_append, ← List.append_assoc]
  rfl
theorem tick_mem (p : PaceM) (now : Int) (l : List CallR) {k : Nat} (hk : k < l.length) : l[k] ∈ tickCalls p now l k := by
  unfold tickCalls
  rw [List.drop_eq_getElem_cons hk]
  exact List.mem_append_right _ List.mem_cons_self
theorem tickCalls_over (p : PaceM) (now : Int) (l : List CallR) (hn : (l.map (·.k)).Nodup) {k : Nat} (hk : k < l.length) (h : overB p now l[k] = true) :
    (tickCalls p now l k).filter (fun q => !decide (q.k = l[k].k)) = tickCalls p now l (k + 1) := by
  unfold tickCalls
  have hs : l = l.take k ++ l[k] :: l.drop (k + 1) := by rw [← List.drop_eq_getElem_cons hk, List.take_append_drop]
  have hn2 : ((l.take k ++ l[k] :: l.drop (k + 1)).map (·.k)).Nodup := by rw [← hs]; exact hn
  rw [List.map_append, List.map_cons] at hn2
  obtain ⟨_, h2, h3⟩ := List.nodup_append.1 hn2
  have e1 : ∀ q ∈ (l.take k).filter (fun r => !overB p now r), (!decide (q.k = l[k].k)) = true := fun q hq => by
    have := h3 q.k (List.mem_map.2 ⟨q, (List.mem_filter.1 hq).1, rfl⟩) (l[k]).k List.mem_cons_self
    simp [this]
  have e2 : ∀ q ∈ l.drop (k + 1), (!decide (q.k = l[k].k)) = true := fun q hq => by
    have : q.k ≠ (l[k]).k := fun e => (List.nodup_cons.1 h2).1 (List.mem_map.2 ⟨q, hq, e⟩)
    simp [this]
  rw [List.take_succ_eq_append_getElem hk, List.filter_append, List.filter_append, List.filter_cons_of_neg (by rw [h]; decide), List.filter_nil, List.append_nil, List.drop_eq_getElem_cons hk, List.filter_cons_of_neg (by simp), List.filter_eq_self.2 e1, List.filter_eq_self.2 e2]
theorem tick_end (S : CliS) (vc vo : Value) : tickS S S.calls.length vc vo = { S with calls := S.calls.filter (fun r => !overB S.cfg.pace S.now r), outs := S.outs ++ (S.calls.filter (overB S.cfg.pace S.now)).map fun r => outOf S r timeoutO, vc := vc, vo := vo } := by
  unfold tickS tickCalls tickOuts
  rw [List.take_length, List.drop_length, List.append_nil]
end Go.Proofs.YtlcjfafmmoncpaaGreatDoor
