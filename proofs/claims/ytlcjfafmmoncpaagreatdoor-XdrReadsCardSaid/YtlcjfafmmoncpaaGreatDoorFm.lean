/- Plain laws of a whole script. No program stands here. -/
import Derived.Test.YtlcjfafmmoncpaaGreatDoorFl
namespace Go.Proofs.YtlcjfafmmoncpaaGreatDoor
open Go.RowKit
set_option linter.unusedVariables false
set_option linter.unusedSimpArgs false

def scriptStr : List OpM → ByteArray
  | [] => ByteArray.empty
  | o :: l => opStr o ++ scriptStr l
theorem scriptStr_mod (l : List OpM) : (scriptStr l).size % 4 = 0 := by
  induction l with
  | nil => rfl
  | cons o l ih =>
    have := (opStr_size o).1
    simp only [scriptStr, ByteArray.size_append]
    omega
theorem puts_all (l : List OpM) : ∀ {st : WSt}, (∀ o ∈ l, o.Is) → st.e = 0 → st.most = 2147483648 → (st.out.size + (scriptStr l).size : Int) ≤ 2147483648 → l.foldl WSt.puts st = { st with out := st.out ++ scriptStr l } := by
  induction l with
  | nil => intro st _ _ _ _; simp [scriptStr]
  | cons o l ih =>
    intro st ho he hm h
    simp only [scriptStr, ByteArray.size_append] at h
    rw [List.foldl_cons, puts_of (ho o (by simp)) he hm (by omega)]
    have h2 := ih (st := { st with out := st.out ++ opStr o }) (fun o h => ho o (by simp [h])) he hm (by rw [ByteArray.size_append]; omega)
    rw [h2]
    simp only [scriptStr, ByteArray.append_assoc]
theorem gets_all (l : List OpM) (y : ByteArray) (ho : ∀ o ∈ l, o.Is) (hs : (scriptStr l).size ≤ 2147483648) : l.foldl RSt.getsS ⟨scriptStr l ++ y, 0⟩ = ⟨y, 0⟩ := by
  induction l with
  | nil => simp [scriptStr]
  | cons o l ih =>
    simp only [scriptStr, ByteArray.size_append] at hs
    rw [List.foldl_cons, scriptStr, ByteArray.append_assoc, (gets_of (ho o (by simp)) (by omega) _).1]
    exact ih (fun o h => ho o (by simp [h])) (by omega)
/-- ahead of each call the rest of the script stands, and it is read. -/
theorem gets_at (l : List OpM) (y : ByteArray) (ho : ∀ o ∈ l, o.Is) (hs : (scriptStr l).size ≤ 2147483648) : ∀ k (hk : k < l.length), (((l.take k).foldl RSt.getsS ⟨scriptStr l ++ y, 0⟩).getsB l[k]) = true := by
  induction l with
  | nil => intro k hk; simp at hk
  | cons o l ih =>
    intro k hk
    simp only [scriptStr, ByteArray.size_append] at hs
    match k with
    | 0 => simp only [List.take_zero, List.foldl_nil, List.getElem_cons_zero, scriptStr, ByteArray.append_assoc]; exact (gets_of (ho o (by simp)) (by omega) _).2
    | k + 1 =>
      simp only [List.take_succ_cons, List.foldl_cons, List.getElem_cons_succ]
      rw [scriptStr, ByteArray.append_assoc, (gets_of (ho o (by simp)) (by omega) _).1]
      exact ih (fun o h => ho o (by simp [h])) (by omega) k (by simpa using hk)
theorem gets_bads (l : List OpM) : ∀ {st : RSt}, st.e ≠ 0 → (l.foldl RSt.getsS st).e = st.e := by
  induction l with
  | nil => intro st _; rfl
  | cons o l ih =>
    intro st h
    rw [List.foldl_cons, ih (by rw [gets_bad h]; exact h), gets_bad h]
theorem gets_cut (l : List OpM) (ho : ∀ o ∈ l, o.Is) (hs : (scriptStr l).size ≤ 2147483648) (h4 : 4 ≤ (scriptStr l).size) : (l.foldl RSt.getsS ⟨(scriptStr l).extract 0 ((scriptStr l).size - 4), 0⟩).e = 20 := by
  induction l with
  | nil => exact absurd h4 (by decide)
  | cons o l ih =>
    have hm := scriptStr_mod l
    simp only [scriptStr, ByteArray.size_append] at hs h4
    rw [List.foldl_cons, scriptStr]
    by_cases hl : (scriptStr l).size = 0
    · have he : scriptStr l = ByteArray.empty := ByteArray.size_eq_zero_iff.1 hl
      have h20 := gets_short (o := o) (by omega) (by omega)
      rw [he, ByteArray.append_empty, gets_bads l (by rw [h20]; decide), h20]
    · have e : (opStr o ++ scriptStr l).extract 0 ((opStr o ++ scriptStr l).size - 4) = opStr o ++ (scriptStr l).extract 0 ((scriptStr l).size - 4) := by
        rw [ByteArray.extract_append, ByteArray.size_append]
        have e1 : (opStr o).extract 0 ((opStr o).size + (scriptStr l).size - 4) = opStr o := by
          apply ByteArray.ext
          apply Array.ext'
          rw [ByteArray.data_extract]
          rw [Array.extract_eq_self_of_le (by show (opStr o).size ≤ _; omega)]
        rw [e1]
        congr 2 <;> omega
      rw [e, (gets_of (ho o (by simp)) (by omega) _).1]
      exact ih (fun o h => ho o (by simp [h])) (by omega) (by omega)

end Go.Proofs.YtlcjfafmmoncpaaGreatDoor
