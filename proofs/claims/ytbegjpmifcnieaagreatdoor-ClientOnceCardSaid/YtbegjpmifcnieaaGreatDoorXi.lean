/- A Writer over a row of calls: what it may have touched since a world, and that what it holds stays within its room. -/
import Derived.Test.YtbegjpmifcnieaaGreatDoorXp
import Derived.Test.YtbegjpmifcnieaaGreatDoorXt
namespace Go.Proofs.YtbegjpmifcnieaaGreatDoor
open Go.RowKit
set_option linter.unusedVariables false
set_option linter.unusedSimpArgs false

def WOk (st : WSt) : Prop := (st.out.size : Int) ≤ st.most ∧ st.most ≤ 1099511627776
theorem WOk.size {st : WSt} (h : WOk st) : st.out.size ≤ 1099511627776 := by unfold WOk at h; omega
theorem WOk.fail {st : WSt} (h : WOk st) (e : Int) : WOk (st.fail e) := by unfold WSt.fail; split <;> exact h
theorem WOk.lays {st : WSt} (h : WOk st) (s : ByteArray) : WOk (st.lays s) := by
  unfold WSt.lays
  split
  · split
    · exact h
    · refine ⟨?_, h.2⟩
      simp only [ByteArray.size_append]
      omega
  · exact h
theorem WOk.uint {st : WSt} (h : WOk st) (n : Int) : WOk (st.uint n) := by
  unfold WSt.uint
  split
  · exact h.lays _
  · exact (h.fail _).lays _
theorem WOk.hyper {st : WSt} (h : WOk st) (n : Int) : WOk (st.hyper n) := h.lays _
theorem WOk.raw {st : WSt} (h : WOk st) (s : ByteArray) : WOk (st.raw s) := by
  unfold WSt.raw
  split
  · exact h.lays _
  · exact (h.fail _).lays _
theorem WOk.count {st : WSt} (h : WOk st) (m n : Int) : WOk (st.count m n) := by
  unfold WSt.count; split
  · split
    · exact h.fail _
    · exact h.uint _
  · exact h.fail _
theorem WOk.opq {st : WSt} (h : WOk st) (m : Int) (s : ByteArray) : WOk (st.opq m s) := by
  unfold WSt.opq; split
  · split
    · exact h.fail _
    · exact h.lays _
  · exact h.fail _

/-- A Writer since the world w0: it lies in F0, or from block lo on. -/
structure Wi (w0 : World) (F0 : Nat → Prop) (lo b : Nat) (w : World) (st : WSt) : Prop where
  fr : Fr F0 w0 w
  wr : ∃ F, Wr w F b st ∧ ∀ k, F k → F0 k ∨ lo ≤ k
  ok : WOk st
  low : w0.heap.size ≤ lo
  lo : lo ≤ w.heap.size

/-- blocks that stay: those that are not in F0, below lo. -/
def Out (F0 : Nat → Prop) (lo : Nat) : Nat → Prop := fun k => F0 k ∨ lo ≤ k

theorem Wi.begin {w : World} {F : Nat → Prop} {b : Nat} {st : WSt} (h : Wr w F b st) (hk : WOk st) : Wi w F w.heap.size b w st :=
  ⟨Fr.refl _ _, ⟨F, h, fun _ h => .inl h⟩, hk, Nat.le_refl _, Nat.le_refl _⟩
/-- a Writer, and locals that were made beside it. -/
theorem Wi.start {w w1 : World} {F : Nat → Prop} {b lo : Nat} {st : WSt} (h : Wr w F b st) (hk : WOk st) (hb : Below w.heap.size w w1) (h1 : w.heap.size ≤ lo) (h2 : lo ≤ w1.heap.size) : Wi w F lo b w1 st :=
  ⟨Fr.ofBelow hb, ⟨F, h.below hb, fun _ h => .inl h⟩, hk, h1, h2⟩
theorem Wi.finish {w w' : World} {F : Nat → Prop} {b lo : Nat} {st : WSt} (h : Wi w F lo b w' st) (hl : ∀ k, F k → k < w.heap.size) : Wr w' (Gw F w w') b st := by
  obtain ⟨F', hw, hF⟩ := h.wr
  exact hw.mono (fun k hk => (hF k hk).imp id (fun hl => ⟨Nat.le_trans h.low hl, hw.low k hk⟩)) (fun k hk => hk.elim (fun h' => Nat.lt_of_lt_of_le (hl k h') h.fr.size) (fun h' => h'.2))
/-- what is made besides. -/
theorem Wi.alloc {w0 w : World} {F0 : Nat → Prop} {lo b : Nat} {st : WSt} (h : Wi w0 F0 lo b w st) (o : Obj) : Wi w0 F0 lo b (w.alloc o) st := by
  obtain ⟨F, hw, hF⟩ := h.wr
  exact ⟨h.fr.alloc o, ⟨F, hw.below ((Below.refl _ _).alloc (Nat.le_refl _) _), hF⟩, h.ok, h.low, by rw [World.size_alloc]; exact Nat.le_succ_of_le h.lo⟩
theorem Wi.keep {w0 w w' : World} {F0 S : Nat → Prop} {lo b : Nat} {st : WSt} (h : Wi w0 F0 lo b w st) (hf : Fr S w w') (hS : ∀ k, S k → ¬ F0 k ∧ w0.heap.size ≤ k ∧ k < lo) : Wi w0 F0 lo b w' st := by
  obtain ⟨F, hw, hF⟩ := h.wr
  exact ⟨h.fr.then hf (fun i hi hs => by have := (hS i hs).2.1; omega), ⟨F, hw.fr hf (fun g hg hs => by
    have h1 := hS g hs
    rcases hF g hg with h2 | h2
    · exact h1.1 h2
    · omega), hF⟩, h.ok, h.low, Nat.le_trans h.lo hf.size⟩
theorem Wi.below {w0 w w' : World} {F0 : Nat → Prop} {lo b : Nat} {st : WSt} (h : Wi w0 F0 lo b w st) (hf : Below w.heap.size w w') : Wi w0 F0 lo b w' st :=
  h.keep (S := fun _ => False) (Fr.ofBelow hf) (fun _ h => h.elim)
/-- a later lo: what was made till now is the Writer's no longer. -/
theorem Wi.raise {w0 w : World} {F0 : Nat → Prop} {lo b : Nat} {st : WSt} (h : Wi w0 F0 lo b w st) (F1 : Nat → Prop) (hF : ∀ k, F0 k → F1 k) (hl : ∀ k, lo ≤ k → k < w.heap.size → F1 k) : Wi w0 F1 w.heap.size b w st := by
  obtain ⟨F, hw, hF2⟩ := h.wr
  exact ⟨h.fr.mono (fun k _ h => hF k h), ⟨F, hw, fun k hk => .inl ((hF2 k hk).elim (hF k) (fun h => hl k h (hw.low k hk)))⟩, h.ok, Nat.le_trans h.low h.lo, Nat.le_refl _⟩

theorem Wi.step' {P : Program} {w0 w : World} {F0 : Nat → Prop} {lo b f : Nat} {st st' : WSt} {args : Array Value} {x : Ending} (h : Wi w0 F0 lo b w st) (hk : WOk st')
    (hc : ∀ F, Wr w F b st → (∀ k, F k → Out F0 lo k) → Calls P f args w fun r w' => r = x ∧ Fr F w w' ∧ Wr w' (Gw F w w') b st') :
    Calls P f args w fun r w' => r = x ∧ Wi w0 F0 lo b w' st' ∧ Fr (Out F0 lo) w w' := by
  obtain ⟨F, hw, hF⟩ := h.wr
  refine (hc F hw hF).mono fun r w' ⟨hr, hf, hw'⟩ => ⟨hr, ⟨?_, ⟨_, hw', ?_⟩, hk, h.low, Nat.le_trans h.lo hf.size⟩, ?_⟩
  · exact h.fr.then hf (fun i hi hs => (hF i hs).elim id (fun hl => by have := h.low; omega))
  · intro k hk
    rcases hk with hk | hk
    · exact hF k hk
    · exact .inr (Nat.le_trans h.lo hk.1)
  · exact hf.mono (fun k _ hs => hF k hs)

theorem Wi.step {P : Program} {w0 w : World} {F0 : Nat → Prop} {lo b f : Nat} {st st' : WSt} {args : Array Value} {x : Ending} (h : Wi w0 F0 lo b w st) (hk : WOk st')
    (hc : ∀ F, Wr w F b st → Calls P f args w fun r w' => r = x ∧ Fr F w w' ∧ Wr w' (Gw F w w') b st') :
    Calls P f args w fun r w' => r = x ∧ Wi w0 F0 lo b w' st' ∧ Fr (Out F0 lo) w w' := by
  obtain ⟨F, hw, hF⟩ := h.wr
  refine (hc F hw).mono fun r w' ⟨hr, hf, hw'⟩ => ⟨hr, ⟨?_, ⟨_, hw', ?_⟩, hk, h.low, Nat.le_trans h.lo hf.size⟩, ?_⟩
  · exact h.fr.then hf (fun i hi hs => (hF i hs).elim id (fun hl => by have := h.low; omega))
  · intro k hk
    rcases hk with hk | hk
    · exact hF k hk
    · exact .inr (Nat.le_trans h.lo hk.1)
  · exact hf.mono (fun k _ hs => hF k hs)

section
variable {w0 w : World} {F0 : Nat → Prop} {lo b : Nat} {st : WSt}
theorem Wi.uint (h : Wi w0 F0 lo b w st) (n : Int) :
    Calls Tryz.prog 213 #[.pointer (some ⟨b, 0, none⟩), .int .i64 n] w fun r w' => r = .returned (.tuple #[]) ∧ Wi w0 F0 lo b w' (st.uint n) ∧ Fr (Out F0 lo) w w' :=
  h.step (h.ok.uint n) (fun _ hw => WUint_any n w hw (by have := h.ok.size; omega))
theorem Wi.hyper (h : Wi w0 F0 lo b w st) (n : Int) :
    Calls Tryz.prog 203 #[.pointer (some ⟨b, 0, none⟩), .int .i64 n] w fun r w' => r = .returned (.tuple #[]) ∧ Wi w0 F0 lo b w' (st.hyper n) ∧ Fr (Out F0 lo) w w' :=
  h.step (h.ok.hyper n) (fun _ hw => WHyper_any n w hw (by have := h.ok.size; omega))
theorem Wi.raw (h : Wi w0 F0 lo b w st) (s : ByteArray) (hs : s.size ≤ 140737488351232) :
    Calls Tryz.prog 151 #[.pointer (some ⟨b, 0, none⟩), .string s] w fun r w' => r = .returned (.tuple #[]) ∧ Wi w0 F0 lo b w' (st.raw s) ∧ Fr (Out F0 lo) w w' :=
  h.step (h.ok.raw s) (fun _ hw => WRaw_any s w hw (by have := h.ok.size; have := h.ok.2; omega))
theorem Wi.count (h : Wi w0 F0 lo b w st) (m n : Int) :
    Calls Tryz.prog 215 #[.pointer (some ⟨b, 0, none⟩), .int .i64 m, .int .i64 n] w fun r w' => r = .returned (.tuple #[]) ∧ Wi w0 F0 lo b w' (st.count m n) ∧ Fr (Out F0 lo) w w' :=
  h.step (h.ok.count m n) (fun _ hw => WCount_any m n w hw (by have := h.ok.size; omega))
theorem Wi.opq (h : Wi w0 F0 lo b w st) (m : Int) (s : ByteArray) (hs : s.size ≤ 140737488351232) :
    Calls Tryz.prog 214 #[.pointer (some ⟨b, 0, none⟩), .int .i64 m, .string s] w fun r w' => r = .returned (.tuple #[]) ∧ Wi w0 F0 lo b w' (st.opq m s) ∧ Fr (Out F0 lo) w w' :=
  h.step (h.ok.opq m s) (fun _ hw => WOpaque_any m s w hw (by have := h.ok.size; have := h.ok.2; omega))
theorem Wi.done (h : Wi w0 F0 lo b w st) (hg : ErrT w) :
    Calls Tryz.prog 146 #[.pointer (some ⟨b, 0, none⟩)] w fun r w' => r = .returned (.tuple #[.string st.body, .int .i64 st.e]) ∧ Fr (fun _ => False) w w' := by
  obtain ⟨F, hw, _⟩ := h.wr
  exact WDone_any w hw hg
end

end Go.Proofs.YtbegjpmifcnieaaGreatDoor
