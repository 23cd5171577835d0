/- A Reader and a Writer beside each other, called by a script; a script that is appended to. -/
import Derived.Test.YtlcjfafmmoncpaaGreatDoorGa
import Derived.Test.YtlcjfafmmoncpaaGreatDoorFv
namespace Go.Proofs.YtlcjfafmmoncpaaGreatDoor
open Go.RowKit
set_option linter.unusedVariables false
set_option linter.unusedSimpArgs false

theorem takes_le (st : RSt) (n : Nat) : (st.takes n).rest.size ≤ st.rest.size := by
  unfold RSt.takes RSt.drop
  split
  · simp only [ByteArray.size_extract]; omega
  · exact Nat.le_refl _
theorem textS_le (st : RSt) (a n : Nat) : (st.textS a n).rest.size ≤ st.rest.size := by
  unfold RSt.textS RSt.drop
  split
  · split
    · rw [fail_rest]; exact Nat.le_refl _
    · split
      · simp only [ByteArray.size_extract]; omega
      · rw [fail_rest]; exact Nat.le_refl _
  · exact Nat.le_refl _
theorem againS_le (st : RSt) (o : OpM) : (st.againS o).rest.size ≤ st.rest.size := by
  have hp : ∀ k n, ((st.peeked k).takes n).rest.size ≤ st.rest.size := fun k n => by have := takes_le (st.peeked k) n; rwa [peeked_rest] at this
  unfold RSt.againS
  split; · exact hp 4 4
  split; · exact hp 4 4
  split; · exact hp 8 8
  split
  · unfold RSt.boolS
    split
    · have := takes_le ((st.peeked 4).fail 25) 4; rwa [fail_rest, peeked_rest] at this
    · exact hp 4 4
  split
  · unfold RSt.floatS
    split
    · exact hp 4 4
    · rw [fail_rest, peeked_rest]; exact Nat.le_refl _
  split
  · unfold RSt.doubleS
    split
    · exact hp 8 8
    · rw [fail_rest, peeked_rest]; exact Nat.le_refl _
  split
  · unfold RSt.fixedS
    split
    · exact textS_le _ _ _
    · rw [fail_rest]; exact Nat.le_refl _
  split
  · unfold RSt.opaqueS
    have := textS_le (st.manyS o.n) 4 (st.manyV o.n).toNat
    rwa [manyS_rest] at this
  split
  · unfold RSt.countS
    have := takes_le (st.manyS o.n) 4
    rwa [manyS_rest] at this
  exact Nat.le_refl _

/-- A Reader at b and a Writer at c since the world w0. -/
structure Wj (w0 : World) (b c : Nat) (w : World) (p : RSt × WSt) : Prop where
  fr : Fr (fun k => k = b ∨ k = c) w0 w
  rd : Rd w b p.1
  wr : ∃ F, Wr w F c p.2 ∧ ∀ k, F k → k = c ∨ w0.heap.size ≤ k
  lt : b < w0.heap.size ∧ b ≠ c
  ok : WOk p.2
  rs : p.1.rest.size ≤ 2147483648
theorem Wj.begin {w : World} {b c : Nat} {p : RSt × WSt} (hr : Rd w b p.1) (hw : Wr w (fun k => k = c) c p.2) (hne : b ≠ c) (ok : WOk p.2) (rs : p.1.rest.size ≤ 2147483648) : Wj w b c w p :=
  ⟨Fr.refl _ _, hr, ⟨_, hw, fun _ h => .inl h⟩, ⟨hr.lt, hne⟩, ok, rs⟩
theorem Wj.again {w0 w : World} {b c : Nat} {p : RSt × WSt} (h : Wj w0 b c w p) (o : OpM) :
    Calls Tryz.prog 31 #[.pointer (some ⟨b, 0, none⟩), .pointer (some ⟨c, 0, none⟩), .agg (opCells o)] w fun r w' => r = .returned (.tuple #[]) ∧ Wj w0 b c w' (pairS p o) := by
  obtain ⟨F, hw, hF⟩ := h.wr
  have hb : ¬ F b := fun hb => by
    rcases hF b hb with h1 | h1
    · exact h.lt.2 h1
    · have := h.lt.1; omega
  refine (again_any o w h.rd hw hb (by have := h.ok.size; have := h.rs; omega)).mono ?_
  rintro r w' ⟨hr, hf, hrd, hwr⟩
  refine ⟨hr, h.fr.then hf (fun i hi hs => ?_), hrd, ⟨_, hwr, ?_⟩, h.lt, h.ok.again _ _, Nat.le_trans (againS_le _ _) h.rs⟩
  · rcases hs with hs | hs
    · exact .inl hs
    · rcases hF i hs with h1 | h1
      · exact .inr h1
      · omega
  · intro k hk
    rcases hk with hk | hk
    · exact hF k hk
    · exact .inr (Nat.le_trans h.fr.size hk.1)

theorem owns_block {w : World} {base e size n : Nat} {g c : Nat} {xs : List Value} (h : w.ownsRow base e size (.slice (some ⟨g, 0, none⟩) n c) n xs) : ∃ cur, w.heap[g]? = some (.cells cur e (0, 0)) := by
  rcases h.2 with ⟨h0, _⟩ | ⟨g', cap, cur, h0, hb, hg, _⟩
  · cases h0
  · simp only [Value.slice.injEq, Option.some.injEq, Addr.mk.injEq, and_true, true_and] at h0
    obtain ⟨rfl, rfl⟩ := h0
    exact ⟨cur, hg⟩
theorem Wr.blk {w : World} {F : Nat → Prop} {b : Nat} {st : WSt} (h : Wr w F b st) : ∃ cs, w.heap[b]? = some (.cells cs 97 (0, 0)) := by
  obtain ⟨v, hb, _⟩ := h.row
  exact ⟨_, hb⟩
theorem far_of {w : World} {a b : Nat} {c d : Array Value} {t u : TypeId} (ha : w.heap[a]? = some (.cells c t (0, 0))) (hb : w.heap[b]? = some (.cells d u (0, 0))) (h : t ≠ u) : a ≠ b := by
  rintro rfl
  rw [ha] at hb
  simp only [Option.some.injEq, Obj.cells.injEq] at hb
  exact h hb.2.1
/-- the cells of a script's calls, one behind the other. -/
def opsRow (l : List OpM) : List Value := l.flatMap fun o => (opCells o).toList
theorem opsRow_append (l : List OpM) (o : OpM) : opsRow (l ++ [o]) = opsRow l ++ (opCells o).toList := by simp [opsRow]
theorem opsRow_get (l : List OpM) : ∀ j, j < l.length → ∀ i, i < 7 → (opsRow l)[j * 7 + i]? = (opCells (l.getD j ⟨0, 0, 0, false, ByteArray.empty, 0, 0⟩))[i]? := by
  induction l with
  | nil => intro j hj; simp at hj
  | cons o l ih =>
    intro j hj i hi
    have hc : (opCells o).toList.length = 7 := rfl
    show ((opCells o).toList ++ opsRow l)[j * 7 + i]? = _
    match j with
    | 0 =>
      rw [List.getElem?_append_left (by omega), Nat.zero_mul, Nat.zero_add, Array.getElem?_toList]
      rfl
    | j + 1 =>
      rw [List.getElem?_append_right (by omega)]
      have e : (j + 1) * 7 + i - (opCells o).toList.length = j * 7 + i := by omega
      rw [e, ih j (by simpa using hj) i hi]
      rfl
theorem ops_own {w : World} {base g n c : Nat} {l : List OpM} (h : w.ownsRow base 44 7 (.slice (some ⟨g, 0, none⟩) n c) n (opsRow l)) (hl : l.length = n) (j : Nat) (hj : j < n) (i : Nat) (hi : i < 7) : w.cell? ⟨g, j * 7 + i, none⟩ = (opCells (l.getD j ⟨0, 0, 0, false, ByteArray.empty, 0, 0⟩))[i]? := by
  rw [h.cellAt (j * 7 + i) (by omega)]
  exact opsRow_get l j (by omega) i hi
theorem news_op {w : World} {b : Nat} {cs : Array Value} {t : TypeId} (h : w.heap[b]? = some (.cells cs t (0, 0))) : ∀ j u, cs.toList[j]? = some u → w.cell? ((⟨b, 0, none⟩ : Addr).add j) = some u := by
  intro j u hu
  have e : (⟨b, 0, none⟩ : Addr).add j = ⟨b, j, none⟩ := by unfold Addr.add; split <;> simp_all
  rw [e, cellOf h]
  simpa using hu
theorem Tryz.infoOp : (Tryz.prog.info? 44).map (fun i => (i.zero, i.size, i.bytes)) = some (some (.agg #[.int .i64 0, .int .i64 0, .int .i64 0, .bool false, .string ByteArray.empty, .int .u32 0, .int .u64 0]), 7, 64) := by kernel_rfl
end Go.Proofs.YtlcjfafmmoncpaaGreatDoor
