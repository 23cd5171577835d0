/- Plain laws of the calls of a script: what was read without an error is laid down as just the bytes that were taken. No program stands here. -/
import Derived.Test.YtlcjfafmmoncpaaGreatDoorFl
namespace Go.Proofs.YtlcjfafmmoncpaaGreatDoor
open Go.RowKit
set_option linter.unusedVariables false
set_option linter.unusedSimpArgs false

theorem takes_front {st : RSt} {k : Nat} (h1 : st.e = 0) (h2 : k ≤ st.rest.size) : st.rest.extract 0 k ++ (st.takes k).rest = st.rest := by
  unfold RSt.takes RSt.drop
  rw [if_pos h1]
  exact cut_front _ _ h2
theorem b_int {st : RSt} (h : st.uint.e = 0) : isI32 st.intV = true ∧ numStr (U64 st.intV) 4 = numStr st.uintV 4 := by
  have hb := peekV_bound st 4
  unfold RSt.intV RSt.uintV
  generalize st.peekV 4 = z at *
  have h1 : -2147483648 ≤ wrap64 (wrap32 z) ∧ wrap64 (wrap32 z) ≤ 2147483647 := by unfold wrap64 wrap32; omega
  refine ⟨by unfold isI32; rw [decide_eq_true h1.1, decide_eq_true h1.2]; rfl, ?_⟩
  rw [numStr4_mod, numStr4_mod z]
  congr 1
  show IntKind.u64.wrap (wrap64 (wrap32 z)) % 4294967296 = _
  rw [IntKind.wrap_u64]
  unfold wrap64 wrap32
  omega
theorem b_bool {st : RSt} (h : st.boolS.e = 0) : st.boolS = st.uint ∧ (if st.boolV = true then 1 else 0 : Int) = st.uintV := by
  have hb := peekV_bound st 4
  unfold RSt.boolS at h ⊢
  unfold RSt.boolV RSt.uintV
  rw [takes_e] at h
  by_cases hc : 1 < st.peekV 4
  · rw [if_pos hc] at h; exact absurd h (fail_e (by decide))
  · rw [if_neg hc]
    refine ⟨rfl, ?_⟩
    by_cases h1 : st.peekV 4 = 1
    · rw [h1]; rfl
    · rw [if_neg (by simpa using h1)]; omega
theorem b_float {st : RSt} (h : st.floatS.e = 0) : st.floatS = st.uint ∧ ((bitsF .f32 st.floatV : Nat) : Int) = st.uintV := by
  have hb := peekV_bound st 4
  unfold RSt.floatS at h ⊢
  unfold RSt.floatV
  by_cases hc : st.floatOk = true
  · rw [if_pos hc, if_pos hc]
    refine ⟨rfl, ?_⟩
    unfold RSt.floatOk at hc
    have hbad : badF .f32 (st.peekV 4).toNat = false := by
      cases hb2 : badF .f32 (st.peekV 4).toNat
      · rfl
      · rw [hb2] at hc; simp at hc
    rw [bits_from hbad]
    unfold RSt.uintV
    omega
  · rw [if_neg hc] at h; exact absurd h (fail_e (by decide))
theorem b_double {st : RSt} (h : st.doubleS.e = 0) : st.doubleS = st.hyper ∧ ((bitsF .f64 st.doubleV : Nat) : Int) = U64 st.hyperV := by
  have hb := peekV_bound st 8
  unfold RSt.doubleS at h ⊢
  unfold RSt.doubleV
  by_cases hc : st.doubleOk = true
  · rw [if_pos hc, if_pos hc]
    refine ⟨rfl, ?_⟩
    unfold RSt.doubleOk at hc
    have hbad : badF .f64 (st.peekV 8).toNat = false := by
      cases hb2 : badF .f64 (st.peekV 8).toNat
      · rfl
      · rw [hb2] at hc; simp at hc
    rw [bits_from hbad]
    unfold RSt.hyperV U64
    generalize st.peekV 8 = z at *
    have h256 : z < 18446744073709551616 := by have := hb.2; omega
    have := hb.1
    rw [IntKind.wrap_u64]
    unfold wrap64
    omega
  · rw [if_neg hc] at h; exact absurd h (fail_e (by decide))
theorem b_fixed {st : RSt} {m : Int} (h : (st.fixedS m).e = 0) :
    isWordB m = true ∧ st.e = 0 ∧ ((st.fixedV m).size : Int) = m ∧ st.rest = padStr (st.fixedV m) ++ (st.fixedS m).rest := by
  unfold RSt.fixedS at h ⊢
  unfold RSt.fixedV
  by_cases hm : isWordB m = true
  case neg => rw [if_neg hm] at h; exact absurd h (fail_e (by decide))
  rw [if_pos hm] at h ⊢
  rw [if_pos hm]
  have hmb := isWordB_iff.1 hm
  have hn : (m.toNat : Int) = m := by omega
  generalize m.toNat = n at h hn ⊢
  have h1 : st.e = 0 := by
    by_cases hc : st.e = 0
    · exact hc
    · rw [textS_bad hc] at h; exact absurd h hc
  unfold RSt.textS at h
  rw [if_pos h1] at h
  by_cases hs : st.rest.size < 0 + n + padN n
  · rw [if_pos hs] at h; exact absurd h (fail_e (by decide))
  rw [if_neg hs] at h
  by_cases hz : zerosB (st.padPart 0 n) = true
  case neg => rw [if_neg hz] at h; exact absurd h (fail_e (by decide))
  have hV : st.textV 0 n = st.rest.extract 0 (0 + n) := by unfold RSt.textV; rw [if_pos ⟨h1, by omega, hz⟩]
  have hS : (st.textS 0 n).rest = st.rest.extract (0 + n + padN n) st.rest.size := by unfold RSt.textS RSt.drop; rw [if_pos h1, if_neg hs, if_pos hz]
  have hVs : (st.textV 0 n).size = n := by rw [hV, ByteArray.size_extract]; omega
  have hP : st.padPart 0 n = padBA n := zeros_eq _ n hz (by unfold RSt.padPart; rw [ByteArray.size_extract]; omega)
  refine ⟨hm, h1, by rw [hVs]; exact hn, ?_⟩
  unfold padStr
  rw [hVs, hV, hS, ← hP]
  unfold RSt.padPart
  rw [ByteArray.append_assoc, ByteArray.extract_append_extract]
  have e1 : min (0 + n) (0 + n + padN n) = 0 + n := by omega
  have e2 : max (0 + n + padN n) st.rest.size = st.rest.size := by omega
  rw [e1, e2, ByteArray.extract_append_extract]
  have e3 : min 0 (0 + n) = 0 := by omega
  have e4 : max (0 + n) st.rest.size = st.rest.size := by omega
  rw [e3, e4]
  exact (extract_all _).symm

/-- one call: what it took. -/
theorem again_of {st : RSt} {wt : WSt} {o : OpM} (hw : wt.e = 0) (h : (st.againS o).e = 0) :
    ∃ p : ByteArray, st.e = 0 ∧ st.rest = p ++ (st.againS o).rest ∧ ((wt.out.size + p.size : Int) ≤ wt.most → wt.again st o = { wt with out := wt.out ++ p }) := by
  unfold RSt.againS at h ⊢
  unfold WSt.again
  by_cases k1 : o.kind = 1
  · simp only [if_pos k1] at h ⊢
    obtain ⟨h1, h2, h3⟩ := b_uint h
    obtain ⟨h4, h5⟩ := b_int h
    refine ⟨_, h1, h3, fun hs => ?_⟩
    unfold WSt.int
    rw [if_pos h4, h5]
    exact w_lays _ hw hs
  by_cases k2 : o.kind = 2
  · simp only [if_neg k1, if_pos k2] at h ⊢
    obtain ⟨h1, h2, h3⟩ := b_uint h
    refine ⟨_, h1, h3, fun hs => ?_⟩
    rw [numStr_size] at hs
    exact w_uint _ hw h2 hs
  by_cases k3 : o.kind = 3
  · simp only [if_neg k1, if_neg k2, if_pos k3] at h ⊢
    obtain ⟨h1, h3⟩ := b_hyper h
    exact ⟨_, h1, h3, fun hs => w_lays _ hw hs⟩
  by_cases k4 : o.kind = 4
  · simp only [if_neg k1, if_neg k2, if_neg k3, if_pos k4] at h ⊢
    obtain ⟨h4, h5⟩ := b_bool h
    rw [h4] at h ⊢
    obtain ⟨h1, h2, h3⟩ := b_uint h
    refine ⟨_, h1, h3, fun hs => ?_⟩
    rw [numStr_size] at hs
    unfold WSt.bool
    rw [h5]
    exact w_uint _ hw h2 hs
  by_cases k5 : o.kind = 5
  · simp only [if_neg k1, if_neg k2, if_neg k3, if_neg k4, if_pos k5] at h ⊢
    obtain ⟨h4, h5⟩ := b_float h
    rw [h4] at h ⊢
    obtain ⟨h1, h2, h3⟩ := b_uint h
    refine ⟨_, h1, h3, fun hs => ?_⟩
    unfold WSt.float
    rw [h5]
    exact w_lays _ hw hs
  by_cases k6 : o.kind = 6
  · simp only [if_neg k1, if_neg k2, if_neg k3, if_neg k4, if_neg k5, if_pos k6] at h ⊢
    obtain ⟨h4, h5⟩ := b_double h
    rw [h4] at h ⊢
    obtain ⟨h1, h3⟩ := b_hyper h
    refine ⟨_, h1, h3, fun hs => ?_⟩
    unfold WSt.double
    rw [h5]
    exact w_lays _ hw hs
  by_cases k7 : o.kind = 7
  · simp only [if_neg k1, if_neg k2, if_neg k3, if_neg k4, if_neg k5, if_neg k6, if_pos k7] at h ⊢
    obtain ⟨h0, h1, h2, h3⟩ := b_fixed h
    refine ⟨_, h1, h3, fun hs => ?_⟩
    unfold WSt.fixed
    rw [if_pos h0, if_pos h2]
    exact w_lays _ hw hs
  by_cases k8 : o.kind = 8
  · simp only [if_neg k1, if_neg k2, if_neg k3, if_neg k4, if_neg k5, if_neg k6, if_neg k7, if_pos k8] at h ⊢
    obtain ⟨h0, h1, h2, h3⟩ := b_opq h
    refine ⟨numStr (st.opaqueV o.n).size 4 ++ padStr (st.opaqueV o.n), h1, by rw [ByteArray.append_assoc]; exact h3, fun hs => ?_⟩
    rw [ByteArray.size_append, numStr_size] at hs
    exact w_opq _ _ hw h0 h2 (by omega)
  by_cases k9 : o.kind = 9
  · simp only [if_neg k1, if_neg k2, if_neg k3, if_neg k4, if_neg k5, if_neg k6, if_neg k7, if_neg k8, if_pos k9] at h ⊢
    obtain ⟨h0, h1, h2, h4, h3⟩ := b_count h
    refine ⟨_, h1, h3, fun hs => ?_⟩
    rw [numStr_size] at hs
    exact w_count _ _ hw h0 h2 h4 hs
  simp only [if_neg k1, if_neg k2, if_neg k3, if_neg k4, if_neg k5, if_neg k6, if_neg k7, if_neg k8, if_neg k9] at h ⊢
  exact ⟨ByteArray.empty, h, by simp, fun _ => by simp⟩
theorem again_bad {st : RSt} (h : st.e ≠ 0) (o : OpM) : (st.againS o).e = st.e := by
  unfold RSt.againS
  by_cases k1 : o.kind = 1
  · simp only [if_pos k1]; exact uint_bad h
  by_cases k2 : o.kind = 2
  · simp only [if_neg k1, if_pos k2]; exact uint_bad h
  by_cases k3 : o.kind = 3
  · simp only [if_neg k1, if_neg k2, if_pos k3]; exact hyper_bad h
  by_cases k4 : o.kind = 4
  · simp only [if_neg k1, if_neg k2, if_neg k3, if_pos k4]; exact boolS_bad h
  by_cases k5 : o.kind = 5
  · simp only [if_neg k1, if_neg k2, if_neg k3, if_neg k4, if_pos k5]; exact floatS_bad h
  by_cases k6 : o.kind = 6
  · simp only [if_neg k1, if_neg k2, if_neg k3, if_neg k4, if_neg k5, if_pos k6]; exact doubleS_bad h
  by_cases k7 : o.kind = 7
  · simp only [if_neg k1, if_neg k2, if_neg k3, if_neg k4, if_neg k5, if_neg k6, if_pos k7]; exact fixedS_bad h _
  by_cases k8 : o.kind = 8
  · simp only [if_neg k1, if_neg k2, if_neg k3, if_neg k4, if_neg k5, if_neg k6, if_neg k7, if_pos k8]; exact opaqueS_bad h _
  by_cases k9 : o.kind = 9
  · simp only [if_neg k1, if_neg k2, if_neg k3, if_neg k4, if_neg k5, if_neg k6, if_neg k7, if_neg k8, if_pos k9]; exact countS_bad h _
  simp only [if_neg k1, if_neg k2, if_neg k3, if_neg k4, if_neg k5, if_neg k6, if_neg k7, if_neg k8, if_neg k9]

/-- a Reader and a Writer, behind a call of both. -/
def pairS (p : RSt × WSt) (o : OpM) : RSt × WSt := (p.1.againS o, p.2.again p.1 o)
theorem pair_bad (l : List OpM) : ∀ {p : RSt × WSt}, p.1.e ≠ 0 → (l.foldl pairS p).1.e ≠ 0 := by
  induction l with
  | nil => intro p h; exact h
  | cons o l ih =>
    intro p h
    rw [List.foldl_cons]
    exact ih (by show (p.1.againS o).e ≠ 0; rw [again_bad h]; exact h)
theorem pair_all (l : List OpM) : ∀ {p : RSt × WSt}, p.2.e = 0 → (p.2.out.size + p.1.rest.size : Int) ≤ p.2.most → (l.foldl pairS p).1.e = 0 →
    ∃ x : ByteArray, p.1.rest = x ++ (l.foldl pairS p).1.rest ∧ (l.foldl pairS p).2 = { p.2 with out := p.2.out ++ x } := by
  induction l with
  | nil => intro p _ _ _; exact ⟨ByteArray.empty, by simp, by simp⟩
  | cons o l ih =>
    intro p hw hs h
    rw [List.foldl_cons] at h ⊢
    have h1 : (p.1.againS o).e = 0 := by
      by_cases hc : (p.1.againS o).e = 0
      · exact hc
      · exact absurd h (pair_bad l (p := pairS p o) hc)
    obtain ⟨x, _, hx, hl⟩ := again_of hw h1
    have hxs : p.1.rest.size = x.size + (p.1.againS o).rest.size := by rw [hx, ByteArray.size_append]
    have hl := hl (by omega)
    have e : pairS p o = (p.1.againS o, { p.2 with out := p.2.out ++ x }) := by unfold pairS; rw [hl]
    rw [e] at h ⊢
    obtain ⟨y, hy, hz⟩ := ih (p := (p.1.againS o, { p.2 with out := p.2.out ++ x })) hw (by simp only [ByteArray.size_append]; omega) h
    exact ⟨x ++ y, by rw [ByteArray.append_assoc, ← hy]; exact hx, by rw [hz]; simp only [ByteArray.append_assoc]⟩
theorem pair_whole (s : ByteArray) (l : List OpM) (h : (l.foldl pairS (⟨s, 0⟩, ⟨ByteArray.empty, s.size, 0⟩)).1.e = 0) :
    (l.foldl pairS (⟨s, 0⟩, ⟨ByteArray.empty, s.size, 0⟩)).1.rest.size ≤ s.size ∧ (l.foldl pairS (⟨s, 0⟩, ⟨ByteArray.empty, s.size, 0⟩)).2 = ⟨s.extract 0 (s.size - (l.foldl pairS (⟨s, 0⟩, ⟨ByteArray.empty, s.size, 0⟩)).1.rest.size), s.size, 0⟩ := by
  obtain ⟨x, hx, hl⟩ := pair_all l (p := (⟨s, 0⟩, ⟨ByteArray.empty, s.size, 0⟩)) rfl (by show ((0 : Nat) + s.size : Int) ≤ (s.size : Int); omega) h
  generalize l.foldl pairS (⟨s, 0⟩, ⟨ByteArray.empty, s.size, 0⟩) = q at *
  have hx : s = x ++ q.1.rest := hx
  have hsz : s.size = x.size + q.1.rest.size := by rw [hx, ByteArray.size_append]
  refine ⟨by omega, ?_⟩
  rw [hl]
  have e : s.extract 0 (s.size - q.1.rest.size) = x := by
    have e1 : s.size - q.1.rest.size = x.size := by omega
    rw [e1, hx]
    exact ByteArray.extract_append_eq_left rfl
  rw [e]
  simp
/-- what is wrong stays so, and nothing is taken. -/
theorem bad_int {st : RSt} (h : st.e ≠ 0) : st.intV = 0 ∧ st.uint = st := by
  unfold RSt.intV RSt.uint
  rw [peekV_bad h, peeked_bad h]
  exact ⟨by unfold wrap64 wrap32; omega, by unfold RSt.takes; rw [if_neg h]⟩
theorem bad_rest {st : RSt} (h : st.e ≠ 0) : st.restV = ByteArray.empty ∧ st.restS = st ∧ st.doneV = st.e := by
  unfold RSt.restV RSt.restS RSt.doneV RSt.taken RSt.takes
  rw [if_neg h, if_neg h, if_neg (fun hc => h hc.1)]
  exact ⟨rfl, rfl, rfl⟩

end Go.Proofs.YtlcjfafmmoncpaaGreatDoor
