/- callboxlaw02.XdrWrites, walked. -/
import Derived.Test.YtlcjfafmmoncpaaGreatDoorIh
import Derived.Test.YtlcjfafmmoncpaaGreatDoorFu
namespace Go.Proofs.YtlcjfafmmoncpaaGreatDoor
open Go.RowKit
set_option linter.unusedVariables false
set_option linter.unusedSimpArgs false

/-! What a script may lay down. -/
theorem laid_size (st : WSt) (s : ByteArray) : (st.lays s).out.size ≤ st.out.size + s.size := by
  unfold WSt.lays
  split
  · split
    · exact Nat.le_add_right _ _
    · simp only [ByteArray.size_append]; omega
  · exact Nat.le_add_right _ _
theorem flaid_size (st : WSt) (c : Bool) (e : Int) (s : ByteArray) : ((if c = true then st else st.fail e).lays s).out.size ≤ st.out.size + s.size := by
  have h := laid_size (if c = true then st else st.fail e) s
  have : (if c = true then st else st.fail e).out = st.out := by split; rfl; exact fail_out _ _
  rwa [this] at h
theorem lnum_size (st : WSt) (n : Int) (B : Nat) : (st.lays (numStr n B)).out.size ≤ st.out.size + B := by
  have := laid_size st (numStr n B)
  rwa [numStr_size] at this
theorem luint_size (st : WSt) (n : Int) : (st.uint n).out.size ≤ st.out.size + 4 := by
  have := flaid_size st (isWordB n) 22 (numStr (U64 n) 4)
  rwa [numStr_size] at this
theorem writes_size (st : WSt) (o : OpM) : (st.writes o).out.size ≤ st.out.size + o.s.size + 8 := by
  have hp := padN_lt o.s.size
  unfold WSt.writes
  split
  · have := flaid_size st (isI32 o.n) 22 (numStr (U64 o.n) 4)
    rw [numStr_size] at this
    unfold WSt.int; omega
  split
  · have := luint_size st o.n; omega
  split
  · have := lnum_size st (U64 o.n) 8; unfold WSt.hyper; omega
  split
  · unfold WSt.bool; have := luint_size st (if oddM o.n = true then 1 else 0); omega
  split
  · have := lnum_size st (bitsF .f32 o.single : Nat) 4; unfold WSt.float; omega
  split
  · have := lnum_size st (bitsF .f64 o.double : Nat) 8; unfold WSt.double; omega
  split
  · unfold WSt.fixed
    split
    · split
      · have := laid_size st (padStr o.s); have := padStr_mod o.s; omega
      · rw [fail_out]; omega
    · rw [fail_out]; omega
  split
  · unfold WSt.opq
    split
    · split
      · rw [fail_out]; omega
      · have := laid_size st (numStr (U64 o.s.size) 4 ++ padStr o.s)
        rw [ByteArray.size_append, numStr_size] at this
        have := padStr_mod o.s; omega
    · rw [fail_out]; omega
  split
  · unfold WSt.count
    split
    · split
      · rw [fail_out]; omega
      · have := luint_size st o.m; omega
    · rw [fail_out]; omega
  split
  · have := flaid_size st (decide (o.s.size % 4 = 0)) 1 o.s
    unfold WSt.raw
    simp only [decide_eq_true_eq] at this
    omega
  split
  · rw [fail_out]; omega
  · omega
/-- both pairs of Writers behind a call. -/
def bothW (p : WSt × WSt) (o : OpM) : WSt × WSt := if o.other = true then (p.1, p.2.writes o) else (p.1.writes o, p.2)
def sumW : List OpM → Nat
  | [] => 0
  | o :: l => (o.s.size + 16) + sumW l
theorem sumW_append (l m : List OpM) : sumW (l ++ m) = sumW l + sumW m := by
  induction l with
  | nil => simp [sumW]
  | cons o l ih => simp only [List.cons_append, sumW]; omega
theorem bothW_size (l : List OpM) : ∀ p : WSt × WSt, (l.foldl bothW p).1.out.size ≤ p.1.out.size + sumW l ∧ (l.foldl bothW p).2.out.size ≤ p.2.out.size + sumW l := by
  induction l with
  | nil => intro p; exact ⟨Nat.le_refl _, Nat.le_refl _⟩
  | cons o l ih =>
    intro p
    rw [List.foldl_cons]
    have h := ih (bothW p o)
    have h1 := writes_size p.1 o
    have h2 := writes_size p.2 o
    unfold sumW
    by_cases hc : o.other = true
    · have e : bothW p o = (p.1, p.2.writes o) := if_pos hc
      rw [e] at h ⊢
      simp only at h
      omega
    · have e : bothW p o = (p.1.writes o, p.2) := if_neg hc
      rw [e] at h ⊢
      simp only at h
      omega
theorem sumW_le (l : List OpM) : ∀ n : Int, 0 ≤ n → weighsM l n ≤ 2147483647 → n + sumW l ≤ 2147483647 := by
  induction l with
  | nil => intro n _ h; simpa [weighsM, sumW] using h
  | cons o l ih =>
    intro n hn h
    have hb := weighsM_big (o :: l) n hn
    unfold weighsM at h
    rw [if_pos (by omega)] at h
    have h16 : (0 : Int) ≤ addsM 16 o.s.size := addsM_nonneg (by decide) (by omega)
    have hn2 := addsM_nonneg hn h16
    have hb2 := weighsM_big l _ hn2
    have h1 := ih _ hn2 h
    have e2 : addsM n (addsM 16 o.s.size) = n + addsM 16 o.s.size := addsM_is (by omega)
    rw [e2] at h1
    have e3 : addsM 16 o.s.size = 16 + o.s.size := addsM_is (by omega)
    rw [e3] at h1
    unfold sumW
    omega

/-- two pairs of Writers since the world w0. -/
structure Wz (w0 : World) (b1 c1 b2 c2 : Nat) (w : World) (p : WSt × WSt) : Prop where
  fr : Fr (fun _ => False) w0 w
  pk : ∃ F1 F2, Wy w F1 b1 c1 p.1 ∧ Wy w F2 b2 c2 p.2 ∧ (∀ k, F1 k → ¬ F2 k) ∧ ¬ F1 c2 ∧ ¬ F2 c1 ∧ ∀ k, F1 k ∨ F2 k → w0.heap.size ≤ k
  ne : c1 ≠ c2 ∧ w0.heap.size ≤ c1 ∧ w0.heap.size ≤ c2
section
variable {w0 w : World} {b1 c1 b2 c2 : Nat} {p : WSt × WSt}
theorem Wz.quiet {w' : World} (h : Wz w0 b1 c1 b2 c2 w p) (hf : Fr (fun _ => False) w w') : Wz w0 b1 c1 b2 c2 w' p := by
  obtain ⟨F1, F2, h1, h2, h3⟩ := h.pk
  exact ⟨h.fr.trans hf, ⟨F1, F2, h1.fr hf (fun _ _ => id) id, h2.fr hf (fun _ _ => id) id, h3⟩, h.ne⟩
theorem Wz.one (h : Wz w0 b1 c1 b2 c2 w p) (o : OpM) (ho : o.Is) (hs : p.1.out.size + o.s.size + 24 ≤ 140737488351232) :
    Calls Tryz.prog 15 #[.pointer (some ⟨b1, 0, none⟩), .pointer (some ⟨c1, 0, none⟩), .agg (opCells o)] w fun r w' => r = .returned (.tuple #[]) ∧ Wz w0 b1 c1 b2 c2 w' (p.1.writes o, p.2) := by
  obtain ⟨F1, F2, h1, h2, h3, h4, h5, h6⟩ := h.pk
  refine (writes_any o ho w h1 hs).mono ?_
  rintro r w' ⟨hr, hf, hy⟩
  refine ⟨hr, h.fr.then hf (fun i hi hs => ?_), ⟨_, F2, hy, h2.fr hf (fun k hk hc => ?_) (fun hc => ?_), fun k hk hk2 => ?_, fun hk => ?_, h5, fun k hk => ?_⟩, h.ne⟩
  · rcases hs with hs | hs
    · have := h6 i (.inl hs); omega
    · have := h.ne.2.1; omega
  · rcases hc with hc | hc
    · exact h3 k hc hk
    · exact h5 (hc ▸ hk)
  · rcases hc with hc | hc
    · exact h4 hc
    · exact h.ne.1 hc.symm
  · rcases hk with hk | hk
    · exact h3 k hk hk2
    · have := h2.wr.low k hk2; omega
  · rcases hk with hk | hk
    · exact h4 hk
    · have := h2.rw.lt; omega
  · rcases hk with (hk | hk) | hk
    · exact h6 k (.inl hk)
    · exact Nat.le_trans h.fr.size hk.1
    · exact h6 k (.inr hk)
theorem Wz.swap (h : Wz w0 b1 c1 b2 c2 w p) : Wz w0 b2 c2 b1 c1 w (p.2, p.1) := by
  obtain ⟨F1, F2, h1, h2, h3, h4, h5, h6⟩ := h.pk
  exact ⟨h.fr, ⟨F2, F1, h2, h1, fun k hk hk2 => h3 k hk2 hk, h5, h4, fun k hk => h6 k hk.symm⟩, ⟨h.ne.1.symm, h.ne.2.2, h.ne.2.1⟩⟩
theorem Wz.two (h : Wz w0 b1 c1 b2 c2 w p) (o : OpM) (ho : o.Is) (hs : p.2.out.size + o.s.size + 24 ≤ 140737488351232) :
    Calls Tryz.prog 15 #[.pointer (some ⟨b2, 0, none⟩), .pointer (some ⟨c2, 0, none⟩), .agg (opCells o)] w fun r w' => r = .returned (.tuple #[]) ∧ Wz w0 b1 c1 b2 c2 w' (p.1, p.2.writes o) :=
  (h.swap.one o ho hs).mono fun _ _ hh => ⟨hh.1, hh.2.swap⟩
theorem Wz.wr1 (h : Wz w0 b1 c1 b2 c2 w p) (hg : ErrT w0) :
    Calls Tryz.prog 16 #[.pointer (some ⟨b1, 0, none⟩), .pointer (some ⟨c1, 0, none⟩)] w fun r w' => r = .returned (.bool true) ∧ Wz w0 b1 c1 b2 c2 w' p := by
  obtain ⟨F1, F2, h1, _⟩ := h.pk
  exact (written_any w h1 (hg.fr h.fr id)).mono fun _ _ hh => ⟨hh.1, h.quiet hh.2⟩
theorem Wz.wr2 (h : Wz w0 b1 c1 b2 c2 w p) (hg : ErrT w0) :
    Calls Tryz.prog 16 #[.pointer (some ⟨b2, 0, none⟩), .pointer (some ⟨c2, 0, none⟩)] w fun r w' => r = .returned (.bool true) ∧ Wz w0 b1 c1 b2 c2 w' p :=
  (h.swap.wr1 hg).mono fun _ _ hh => ⟨hh.1, hh.2.swap⟩
end
end Go.Proofs.YtlcjfafmmoncpaaGreatDoor
