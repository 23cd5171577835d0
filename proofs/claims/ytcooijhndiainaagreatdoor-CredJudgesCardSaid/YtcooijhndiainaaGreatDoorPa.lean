/- Two lists of lists in the making: what came out, and what it must be. -/
import Derived.Test.YtcooijhndiainaaGreatDoorAq
import Derived.Test.YtcooijhndiainaaGreatDoorRb
namespace Go.Proofs.YtcooijhndiainaaGreatDoor
open Go.RowKit

structure PaI (K KM : Nat) (xs : Nat → List Int) (base : Nat) (w : World) (lv : Value) (L : List Value) (mv : Value) (M : List Value) : Prop where
  hl : w.ownsRow base 22 1 lv K L
  hm : w.ownsRow base 22 1 mv KM M
  rows : ∀ e, e < K → w.ownsRow base 3 1 (gAt L e) (xs e).length ((xs e).map (Value.int .i64))
  ints : ∀ e, e < KM → ∃ A c, gAt M e = .slice A (xs e).length c ∧ IntsAt w A (xs e) ∧ ∀ a, A = some a → a.block < w.heap.size ∧ lv.ownBlock ≠ some a.block ∧ mv.ownBlock ≠ some a.block
  ap : Apart K lv L
  lm : ∀ b, lv.ownBlock = some b → mv.ownBlock ≠ some b
  rm : ∀ e, e < K → ∀ b, (gAt L e).ownBlock = some b → mv.ownBlock ≠ some b

theorem PaI.start (xs : Nat → List Int) (base : Nat) (w : World) : PaI 0 0 xs base w (.slice none 0 0) [] (.slice none 0 0) [] :=
  ⟨World.ownsRow_nil _ _ _ _, World.ownsRow_nil _ _ _ _, fun e he => absurd he (Nat.not_lt_zero _), fun e he => absurd he (Nat.not_lt_zero _), fun e he => absurd he (Nat.not_lt_zero _), fun b hb => (by cases hb), fun e he => absurd he (Nat.not_lt_zero _)⟩
section
variable {K KM : Nat} {xs : Nat → List Int} {base : Nat} {w w' : World} {lv mv : Value} {L M : List Value}
theorem PaI.fr (h : PaI K KM xs base w lv L mv M) (hf : Fr (fun _ => False) w w') : PaI K KM xs base w' lv L mv M :=
  ⟨owns_fr h.hl hf (fun _ _ h => h), owns_fr h.hm hf (fun _ _ h => h), fun e he => owns_fr (h.rows e he) hf (fun _ _ h => h), fun e he => by
    obtain ⟨A, c, h1, h2, h3⟩ := h.ints e he
    exact ⟨A, c, h1, h2.fr hf (fun _ _ h => h), fun a ha => ⟨Nat.lt_of_lt_of_le (h3 a ha).1 hf.size, (h3 a ha).2⟩⟩, h.ap, h.lm, h.rm⟩

theorem gAt_two_lt {E : List Value} {x y : Value} {e : Nat} (h : e < E.length) : gAt (E ++ [x, y]) e = gAt E e := by
  unfold gAt; simp [List.getD, List.getElem?_append_left h]
theorem gAt_two_0 {E : List Value} {x y : Value} : gAt (E ++ [x, y]) E.length = x := by
  unfold gAt; simp [List.getD]
theorem gAt_two_1 {E : List Value} {x y : Value} : gAt (E ++ [x, y]) (E.length + 1) = y := by
  unfold gAt; simp [List.getD]

/-- two rows are noted among those that came out. lo: a size of the heap behind which the new ones lie. -/
theorem PaI.addL {w1 : World} {o : Obj} {lv' g1 g2 : Value} (h : PaI K KM xs base w lv L mv M)
    (r1 : w.ownsRow base 3 1 g1 (xs K).length ((xs K).map (Value.int .i64))) (r2 : w.ownsRow base 3 1 g2 (xs (K + 1)).length ((xs (K + 1)).map (Value.int .i64)))
    (d1 : ∀ b, g1.ownBlock = some b → lv.ownBlock ≠ some b ∧ mv.ownBlock ≠ some b ∧ (∀ e, e < K → (gAt L e).ownBlock ≠ some b) ∧ g2.ownBlock ≠ some b)
    (d2 : ∀ b, g2.ownBlock = some b → lv.ownBlock ≠ some b ∧ mv.ownBlock ≠ some b ∧ (∀ e, e < K → (gAt L e).ownBlock ≠ some b) ∧ g1.ownBlock ≠ some b)
    (ho : w1.ownsRow base 22 1 lv' (K + 2) (L ++ [g1, g2])) (hg : (w.alloc o).grownBy w1 lv.ownBlock) (hat : lv'.ownBlock = lv.ownBlock ∨ lv'.ownBlock = some (w.alloc o).heap.size) :
    PaI (K + 2) KM xs base w1 lv' (L ++ [g1, g2]) mv M := by
  have hsz : (w.alloc o).heap.size = w.heap.size + 1 := World.size_alloc _ _
  have hE : L.length = K := by have := h.hl.1; omega
  have stay : ∀ {e n : Nat} {v : Value} {xs : List Value}, w.ownsRow base e 1 v n xs → (∀ b, v.ownBlock = some b → lv.ownBlock ≠ some b) → w1.ownsRow base e 1 v n xs := fun hv hn => owns_stay (hv.alloc _) hg hn
  have new : ∀ b, b < w.heap.size → lv.ownBlock ≠ some b → lv'.ownBlock ≠ some b := fun b hb hn e => by
    rcases hat with h2 | h2
    · exact hn (h2 ▸ e)
    · rw [h2, hsz] at e; injection e with e; omega
  have new2 : ∀ b, lv'.ownBlock = some b → lv.ownBlock = some b ∨ b = w.heap.size + 1 := fun b hb => by
    rcases hat with h2 | h2
    · exact .inl (h2 ▸ hb)
    · rw [h2, hsz] at hb; injection hb with hb; exact .inr hb.symm
  have rowE : ∀ e, e < K + 2 → w.ownsRow base 3 1 (gAt (L ++ [g1, g2]) e) (xs e).length ((xs e).map (Value.int .i64)) ∧ (∀ b, (gAt (L ++ [g1, g2]) e).ownBlock = some b → lv.ownBlock ≠ some b ∧ mv.ownBlock ≠ some b) := by
    intro e he
    rcases (by omega : e < K ∨ e = L.length ∨ e = L.length + 1) with h1 | h1 | h1
    · rw [gAt_two_lt (by omega)]
      exact ⟨h.rows e h1, fun b hb => ⟨(h.ap e h1 b hb).1, h.rm e h1 b hb⟩⟩
    · subst h1; rw [gAt_two_0, hE]; exact ⟨r1, fun b hb => ⟨(d1 b hb).1, (d1 b hb).2.1⟩⟩
    · subst h1; rw [gAt_two_1, hE]; exact ⟨r2, fun b hb => ⟨(d2 b hb).1, (d2 b hb).2.1⟩⟩
  refine ⟨ho, stay h.hm (fun b hb e => h.lm b e hb), fun e he => stay (rowE e he).1 (fun b hb => ((rowE e he).2 b hb).1), fun e he => ?_, fun i hi b hb => ⟨new b ((rowE i hi).1.lt b hb).2 ((rowE i hi).2 b hb).1, fun j hj hji e => ?_⟩, fun b hb e => ?_, fun e he b hb => ((rowE e he).2 b hb).2⟩
  · obtain ⟨A, c, h1, h2, h3⟩ := h.ints e he
    refine ⟨A, c, h1, intsAt_stay (w := w.alloc o) (h2.fr ((Fr.refl (fun _ => False) w).alloc o) (fun _ _ h => h)) hg (fun a ha => (h3 a ha).2.1), fun a ha => ?_⟩
    obtain ⟨k1, k2, k3⟩ := h3 a ha
    exact ⟨Nat.lt_of_lt_of_le (by omega) hg.size, new _ k1 k2, k3⟩
  · -- no two of the rows are one
    rcases (by omega : i < K ∨ i = L.length ∨ i = L.length + 1) with h1 | h1 | h1
    · rw [gAt_two_lt (by omega)] at hb
      rcases (by omega : j < K ∨ j = L.length ∨ j = L.length + 1) with h2 | h2 | h2
      · rw [gAt_two_lt (by omega)] at e; exact (h.ap i h1 b hb).2 j h2 hji e
      · subst h2; rw [gAt_two_0] at e; exact (d1 b e).2.2.1 i h1 hb
      · subst h2; rw [gAt_two_1] at e; exact (d2 b e).2.2.1 i h1 hb
    · subst h1
      rw [gAt_two_0] at hb
      rcases (by omega : j < K ∨ j = L.length + 1) with h2 | h2
      · rw [gAt_two_lt (by omega)] at e; exact (d1 b hb).2.2.1 j h2 e
      · subst h2; rw [gAt_two_1] at e; exact (d1 b hb).2.2.2 e
    · subst h1
      rw [gAt_two_1] at hb
      rcases (by omega : j < K ∨ j = L.length) with h2 | h2
      · rw [gAt_two_lt (by omega)] at e; exact (d2 b hb).2.2.1 j h2 e
      · subst h2; rw [gAt_two_0] at e; exact (d2 b hb).2.2.2 e
  · rcases new2 b hb with h2 | h2
    · exact h.lm b h2 e
    · have := (h.hm.lt b e).2; omega

/-- and two among those that it must be. -/
theorem PaI.addM {w1 : World} {o : Obj} {mv' : Value} {A1 A2 : Option Addr} {c1 c2 : Nat} (h : PaI K KM xs base w lv L mv M)
    (r1 : IntsAt w A1 (xs KM)) (r2 : IntsAt w A2 (xs (KM + 1)))
    (d1 : ∀ a, A1 = some a → a.block < w.heap.size ∧ lv.ownBlock ≠ some a.block ∧ mv.ownBlock ≠ some a.block)
    (d2 : ∀ a, A2 = some a → a.block < w.heap.size ∧ lv.ownBlock ≠ some a.block ∧ mv.ownBlock ≠ some a.block)
    (ho : w1.ownsRow base 22 1 mv' (KM + 2) (M ++ [.slice A1 (xs KM).length c1, .slice A2 (xs (KM + 1)).length c2])) (hg : (w.alloc o).grownBy w1 mv.ownBlock) (hat : mv'.ownBlock = mv.ownBlock ∨ mv'.ownBlock = some (w.alloc o).heap.size) :
    PaI K (KM + 2) xs base w1 lv L mv' (M ++ [.slice A1 (xs KM).length c1, .slice A2 (xs (KM + 1)).length c2]) := by
  have hsz : (w.alloc o).heap.size = w.heap.size + 1 := World.size_alloc _ _
  have hE : M.length = KM := by have := h.hm.1; omega
  have stay : ∀ {e n : Nat} {v : Value} {xs : List Value}, w.ownsRow base e 1 v n xs → (∀ b, v.ownBlock = some b → mv.ownBlock ≠ some b) → w1.ownsRow base e 1 v n xs := fun hv hn => owns_stay (hv.alloc _) hg hn
  have new : ∀ b, b < w.heap.size → mv.ownBlock ≠ some b → mv'.ownBlock ≠ some b := fun b hb hn e => by
    rcases hat with h2 | h2
    · exact hn (h2 ▸ e)
    · rw [h2, hsz] at e; injection e with e; omega
  have key : ∀ (A : Option Addr) (ys : List Int), IntsAt w A ys → (∀ a, A = some a → a.block < w.heap.size ∧ lv.ownBlock ≠ some a.block ∧ mv.ownBlock ≠ some a.block) →
      IntsAt w1 A ys ∧ ∀ a, A = some a → a.block < w1.heap.size ∧ lv.ownBlock ≠ some a.block ∧ mv'.ownBlock ≠ some a.block := fun A ys hi hd =>
    ⟨intsAt_stay (w := w.alloc o) (hi.fr ((Fr.refl (fun _ => False) w).alloc o) (fun _ _ h => h)) hg (fun a ha => (hd a ha).2.2), fun a ha => ⟨Nat.lt_of_lt_of_le (by have := (hd a ha).1; omega) hg.size, (hd a ha).2.1, new _ (hd a ha).1 (hd a ha).2.2⟩⟩
  refine ⟨stay h.hl h.lm, ho, fun e he => stay (h.rows e he) (h.rm e he), fun e he => ?_, h.ap, fun b hb => new b (h.hl.lt b hb).2 (h.lm b hb), fun e he b hb => new b ((h.rows e he).lt b hb).2 (h.rm e he b hb)⟩
  rcases (by omega : e < KM ∨ e = M.length ∨ e = M.length + 1) with h1 | h1 | h1
  · obtain ⟨A, c, h2, h3, h4⟩ := h.ints e h1
    exact ⟨A, c, by rw [gAt_two_lt (by omega)]; exact h2, key A _ h3 h4⟩
  · subst h1; rw [gAt_two_0, hE]; exact ⟨A1, c1, rfl, key A1 _ r1 d1⟩
  · subst h1; rw [gAt_two_1, hE]; exact ⟨A2, c2, rfl, key A2 _ r2 d2⟩
end
end Go.Proofs.YtcooijhndiainaaGreatDoor
