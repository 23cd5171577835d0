/- What a script weighs; a Writer of little room goes on. -/
import Derived.Test.YtlcjfafmmoncpaaGreatDoorFo
import Derived.Test.YtlcjfafmmoncpaaGreatDoorXi
namespace Go.Proofs.YtlcjfafmmoncpaaGreatDoor
open Go.RowKit
set_option linter.unusedVariables false
set_option linter.unusedSimpArgs false

theorem addsM_is {n m : Int} (h : addsM n m ≤ 2147483647) : addsM n m = n + m := by
  unfold addsM at h ⊢
  by_cases hc : n > 2147483647 ∨ m > 2147483647
  · rw [if_pos hc] at h; omega
  · rw [if_neg hc]
theorem weighsM_big (l : List OpM) : ∀ n : Int, 0 ≤ n → n ≤ weighsM l n := by
  induction l with
  | nil => intro n _; exact Int.le_refl _
  | cons o l ih =>
    intro n hn
    unfold weighsM
    by_cases h : n ≤ 2147483647
    · rw [if_pos h]
      have h16 : (0 : Int) ≤ addsM 16 o.s.size := addsM_nonneg (by decide) (by omega)
      have h2 := ih (addsM n (addsM 16 o.s.size)) (addsM_nonneg hn h16)
      refine Int.le_trans ?_ h2
      unfold addsM
      split <;> split <;> omega
    · rw [if_neg h]
      exact Int.le_refl _
/-- what a script lays down weighs no more. -/
theorem weighsM_str (l : List OpM) : ∀ n : Int, 0 ≤ n → weighsM l n ≤ 2147483647 → n + (scriptStr l).size ≤ 2147483647 ∧ ∀ o ∈ l, o.s.size ≤ 2147483647 := by
  induction l with
  | nil => intro n _ h; exact ⟨by simpa [weighsM, scriptStr] using h, by simp⟩
  | cons o l ih =>
    intro n hn h
    have hb := weighsM_big (o :: l) n hn
    unfold weighsM at h
    rw [if_pos (by omega)] at h
    have h16 : (0 : Int) ≤ addsM 16 o.s.size := addsM_nonneg (by decide) (by omega)
    have hn2 := addsM_nonneg hn h16
    have hb2 := weighsM_big l _ hn2
    obtain ⟨h1, h2⟩ := ih _ hn2 h
    have hs := (opStr_size o).2
    have e2 : addsM n (addsM 16 o.s.size) = n + addsM 16 o.s.size := by
      have h9 : addsM n (addsM 16 o.s.size) ≤ 2147483647 := by omega
      exact addsM_is h9
    rw [e2] at h1
    have e3 : addsM 16 o.s.size = 16 + o.s.size := addsM_is (by omega)
    rw [e3] at h1
    refine ⟨by simp only [scriptStr, ByteArray.size_append]; omega, ?_⟩
    intro o' ho'
    rcases List.mem_cons.1 ho' with rfl | ho'
    · omega
    · exact h2 o' ho'
theorem addsM_le {n m : Int} (h : addsM n m ≤ 2147483647) : n + m ≤ 2147483647 := by unfold addsM at h; split at h <;> omega

theorem OpsAt.fr {w w' : World} {S : Nat → Prop} {A : Option Addr} {l : List OpM} (h : OpsAt w A l) (hf : Fr S w w') (hS : ∀ a, A = some a → a.block < w.heap.size ∧ ¬ S a.block) : OpsAt w' A l :=
  h.keep hf.size (fun a ha => hf.block _ (hS a ha).1 (hS a ha).2)

theorem WOk.int {st : WSt} (h : WOk st) (n : Int) : WOk (st.int n) := by
  unfold WSt.int; split
  · exact h.lays _
  · exact (h.fail _).lays _
theorem WOk.bool {st : WSt} (h : WOk st) (b : Bool) : WOk (st.bool b) := h.uint _
theorem WOk.float {st : WSt} (h : WOk st) (x : Nat) : WOk (st.float x) := h.lays _
theorem WOk.double {st : WSt} (h : WOk st) (x : Nat) : WOk (st.double x) := h.lays _
theorem WOk.fixed {st : WSt} (h : WOk st) (n : Int) (s : ByteArray) : WOk (st.fixed n s) := by
  unfold WSt.fixed; split
  · split
    · exact h.lays _
    · exact h.fail _
  · exact h.fail _
theorem WOk.puts {st : WSt} (h : WOk st) (o : OpM) : WOk (st.puts o) := by
  unfold WSt.puts
  split; · exact h.int _
  split; · exact h.uint _
  split; · exact h.hyper _
  split; · exact h.bool _
  split; · exact h.float _
  split; · exact h.double _
  split; · exact h.fixed _ _
  split; · exact h.opq _ _
  split; · exact h.count _ _
  exact h
theorem WOk.again {wt : WSt} (h : WOk wt) (st : RSt) (o : OpM) : WOk (wt.again st o) := by
  unfold WSt.again
  split; · exact h.int _
  split; · exact h.uint _
  split; · exact h.hyper _
  split; · exact h.bool _
  split; · exact h.float _
  split; · exact h.double _
  split; · exact h.fixed _ _
  split; · exact h.opq _ _
  split; · exact h.count _ _
  exact h

section
variable {w0 w : World} {F0 : Nat → Prop} {lo b : Nat} {st : WSt}
theorem Wi.int (h : Wi w0 F0 lo b w st) (n : Int) :
    Calls Tryz.prog 45 #[.pointer (some ⟨b, 0, none⟩), .int .i64 n] w fun r w' => r = .returned (.tuple #[]) ∧ Wi w0 F0 lo b w' (st.int n) ∧ Fr (Out F0 lo) w w' :=
  h.step (h.ok.int n) (fun _ hw => WInt_any n w hw (by have := h.ok.size; omega))
theorem Wi.fixed (h : Wi w0 F0 lo b w st) (n : Int) (s : ByteArray) (hs : s.size ≤ 2147483648) :
    Calls Tryz.prog 46 #[.pointer (some ⟨b, 0, none⟩), .int .i64 n, .string s] w fun r w' => r = .returned (.tuple #[]) ∧ Wi w0 F0 lo b w' (st.fixed n s) ∧ Fr (Out F0 lo) w w' :=
  h.step (h.ok.fixed n s) (fun _ hw => WFixed_any n s w hw (by have := h.ok.size; omega))
theorem Wi.float (h : Wi w0 F0 lo b w st) (x : Nat) (hx : bitsF .f32 x < widthF .f32) :
    Calls Tryz.prog 48 #[.pointer (some ⟨b, 0, none⟩), .float .f32 x] w fun r w' => r = .returned (.tuple #[]) ∧ Wi w0 F0 lo b w' (st.float x) ∧ Fr (Out F0 lo) w w' :=
  h.step (h.ok.float x) (fun _ hw => WFloat_any x w hw hx (by have := h.ok.size; omega))
theorem Wi.puts (h : Wi w0 F0 lo b w st) (o : OpM) (ho : o.Is) (hs : o.s.size ≤ 2147483648) :
    Calls Tryz.prog 27 #[.pointer (some ⟨b, 0, none⟩), .agg (opCells o)] w fun r w' => r = .returned (.tuple #[]) ∧ Wi w0 F0 lo b w' (st.puts o) ∧ Fr (Out F0 lo) w w' :=
  h.step (h.ok.puts o) (fun _ hw => puts_any o ho w hw (by have := h.ok.size; omega))
end
end Go.Proofs.YtlcjfafmmoncpaaGreatDoor
