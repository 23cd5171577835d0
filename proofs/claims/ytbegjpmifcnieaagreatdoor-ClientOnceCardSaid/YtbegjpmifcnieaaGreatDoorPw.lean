/- Plain laws of rows of numbers. -/
import Derived.Test.YtbegjpmifcnieaaGreatDoorJu
import Derived.Test.YtbegjpmifcnieaaGreatDoorFp
namespace Go.Proofs.YtbegjpmifcnieaaGreatDoor
open Go.RowKit
set_option linter.unusedVariables false
set_option linter.unusedSimpArgs false

theorem w_uints (l : List Int) : ∀ {st : WSt}, st.e = 0 → (∀ n ∈ l, isWordB n = true) → (st.out.size + 4 * l.length : Int) ≤ st.most → st.uints l = { st with out := st.out ++ wordsStr l } := by
  induction l with
  | nil => intro st _ _ _; simp [WSt.uints, wordsStr]
  | cons n l ih =>
    intro st he hn h
    rw [List.length_cons] at h
    have e : st.uints (n :: l) = (st.uint n).uints l := rfl
    rw [e, w_uint n he (hn n (List.mem_cons_self ..)) (by omega)]
    rw [ih (st := { st with out := st.out ++ numStr n 4 }) he (fun x hx => hn x (List.mem_cons_of_mem _ hx)) (by simp only [ByteArray.size_append, numStr_size]; omega)]
    simp [wordsStr, ByteArray.append_assoc]


theorem uintsS_front (st : RSt) (k : Nat) : st.uintsS (k + 1) = st.uint.uintsS k := by
  induction k with
  | zero => rfl
  | succ k ih => show (st.uintsS (k + 1)).uint = (st.uint.uintsS k).uint; rw [ih]
theorem uintsV_front (st : RSt) (k : Nat) : st.uintsV (k + 1) = st.uintV :: st.uint.uintsV k := by
  induction k with
  | zero => rfl
  | succ k ih =>
    show st.uintsV (k + 1) ++ [(st.uintsS (k + 1)).uintV] = st.uintV :: (st.uint.uintsV k ++ [(st.uint.uintsS k).uintV])
    rw [ih, uintsS_front]; rfl
theorem r_uints (l : List Int) (y : ByteArray) (hl : ∀ n ∈ l, isWordB n = true) : (RSt.mk (wordsStr l ++ y) 0).uintsS l.length = ⟨y, 0⟩ ∧ (RSt.mk (wordsStr l ++ y) 0).uintsV l.length = l := by
  induction l with
  | nil => simp [wordsStr, RSt.uintsS, RSt.uintsV]
  | cons n l ih =>
    obtain ⟨h1, h2⟩ := ih (fun x hx => hl x (List.mem_cons_of_mem _ hx))
    simp only [wordsStr, List.length_cons]
    rw [uintsS_front, uintsV_front, ByteArray.append_assoc, r_uint, r_uintV n _ (hl n (List.mem_cons_self ..)), h1, h2]
    exact ⟨rfl, rfl⟩

-- ---- what was read is laid down

theorem b_uints {st : RSt} (k : Nat) (h : (st.uintsS k).e = 0) : st.e = 0 ∧ (∀ n ∈ st.uintsV k, isWordB n = true) ∧ st.rest = wordsStr (st.uintsV k) ++ (st.uintsS k).rest := by
  induction k with
  | zero => exact ⟨h, by simp [RSt.uintsV], by simp [RSt.uintsV, wordsStr, RSt.uintsS]⟩
  | succ k ih =>
    unfold RSt.uintsS at h
    obtain ⟨h1, h2, h3⟩ := b_uint h
    obtain ⟨h4, h5, h6⟩ := ih h1
    refine ⟨h4, ?_, ?_⟩
    · intro n hn
      simp only [RSt.uintsV, List.mem_append, List.mem_singleton] at hn
      rcases hn with hn | rfl
      · exact h5 n hn
      · exact h2
    · rw [h6, RSt.uintsV, RSt.uintsS, wordsStr_append, ByteArray.append_assoc]
      simp only [wordsStr]
      rw [ByteArray.append_empty, ← h3]
end Go.Proofs.YtbegjpmifcnieaaGreatDoor

/- The plain law of credentials: Parse of Print and Print of Parse; how long a body is; what Judge tells. No program stands here. -/
namespace Go.Proofs.YtbegjpmifcnieaaGreatDoor
open Go.RowKit

def sysStr (s : SysM) : ByteArray := numStr s.stamp 4 ++ ((numStr s.machine.size 4 ++ padStr s.machine) ++ (numStr s.user 4 ++ (numStr s.group 4 ++ (numStr s.groups.length 4 ++ wordsStr s.groups))))
def markStr (m : MarkM) : ByteArray := numStr m.inst 8 ++ (numStr m.seq 8 ++ (numStr m.water 8 ++ sysStr m.sys))

theorem namedB_iff {s : SysM} : namedB s = true ↔ isWordB s.stamp = true ∧ isWordB s.user = true ∧ isWordB s.group = true ∧ (s.machine.size : Int) ≤ 255 ∧ (s.groups.length : Int) ≤ 16 ∧ ∀ n ∈ s.groups, isWordB n = true := by
  simp [namedB, and_assoc]
theorem pad_size (s : ByteArray) : (padStr s).size % 4 = 0 ∧ (padStr s).size ≤ s.size + 3 := by rw [padStr_size]; unfold padN; omega
theorem pad256 (s : ByteArray) (h : s.size ≤ 255) : (padStr s).size ≤ 256 := by rw [padStr_size]; unfold padN; omega
theorem sysStr_size (s : SysM) : (sysStr s).size = 20 + (padStr s.machine).size + 4 * s.groups.length := by
  simp only [sysStr, ByteArray.size_append, numStr_size, wordsStr_size]; omega
theorem sysStr_bound {s : SysM} (h : namedB s = true) : (sysStr s).size ≤ 340 ∧ (sysStr s).size % 4 = 0 := by
  obtain ⟨_, _, _, h4, h5, _⟩ := namedB_iff.1 h
  have := pad256 s.machine (by omega)
  have := (pad_size s.machine).1
  rw [sysStr_size]; omega
theorem markStr_size (m : MarkM) : (markStr m).size = 24 + (sysStr m.sys).size := by
  simp only [markStr, ByteArray.size_append, numStr_size]; omega

theorem w_sys {st : WSt} {s : SysM} (he : st.e = 0) (hn : namedB s = true) (h : (st.out.size + 340 : Int) ≤ st.most) : st.sys s = { st with out := st.out ++ sysStr s } := by
  obtain ⟨h1, h2, h3, h4, h5, h6⟩ := namedB_iff.1 hn
  have hp := pad256 s.machine (by omega)
  unfold WSt.sys
  rw [w_uint s.stamp he h1 (by omega)]
  rw [w_opq 255 s.machine (by exact he) (by decide) h4 (by simp only [ByteArray.size_append, numStr_size]; omega)]
  rw [w_uint s.user (by exact he) h2 (by simp only [ByteArray.size_append, numStr_size]; omega)]
  rw [w_uint s.group (by exact he) h3 (by simp only [ByteArray.size_append, numStr_size]; omega)]
  rw [w_count 16 s.groups.length (by exact he) (by decide) (by omega) h5 (by simp only [ByteArray.size_append, numStr_size]; omega)]
  rw [w_uints s.groups (by exact he) h6 (by simp only [ByteArray.size_append, numStr_size]; omega)]
  simp only [sysStr, ByteArray.append_assoc]

theorem printSys_yes {s : SysM} (hn : namedB s = true) : printSysM s = (1, sysStr s, 0) := by
  unfold printSysM
  rw [if_pos hn, w_sys (st := newW 1024) rfl hn (by simp [newW])]
  simp [WSt.body, newW]
theorem printSys_no {s : SysM} (hn : ¬ namedB s = true) : printSysM s = (0, ByteArray.empty, 110) := by
  unfold printSysM; rw [if_neg hn]

theorem r_sys {s : SysM} (hn : namedB s = true) (y : ByteArray) : (RSt.mk (sysStr s ++ y) 0).sysS = ⟨y, 0⟩ ∧ (RSt.mk (sysStr s ++ y) 0).sysV = s := by
  obtain ⟨h1, h2, h3, h4, h5, h6⟩ := namedB_iff.1 hn
  have e : sysStr s ++ y = numStr s.stamp 4 ++ (numStr s.machine.size 4 ++ (padStr s.machine ++ (numStr s.user 4 ++ (numStr s.group 4 ++ (numStr s.groups.length 4 ++ (wordsStr s.groups ++ y)))))) := by
    simp only [sysStr, ByteArray.append_assoc]
  rw [e]
  obtain ⟨a1, a2⟩ := r_opq 255 s.machine (numStr s.user 4 ++ (numStr s.group 4 ++ (numStr s.groups.length 4 ++ (wordsStr s.groups ++ y)))) (by decide) h4
  obtain ⟨b1, b2⟩ := r_many 16 s.groups.length (wordsStr s.groups ++ y) (by decide) (by omega) h5
  obtain ⟨c1, c2⟩ := r_uints s.groups y h6
  have hl : ((s.groups.length : Int)).toNat = s.groups.length := by omega
  constructor
  · unfold RSt.sysS RSt.sN RSt.s5 RSt.s4 RSt.s3 RSt.s2 RSt.s1
    rw [r_uint, a1, r_uint, r_uint, r_count 16 _ _ (by decide) (by omega) h5, b2, hl, c1]
  · unfold RSt.sysV RSt.sN RSt.s5 RSt.s4 RSt.s3 RSt.s2 RSt.s1
    rw [r_uintV _ _ h1, r_uint, a1, a2, r_uintV _ _ h2, r_uint, r_uintV _ _ h3, r_uint, r_count 16 _ _ (by decide) (by omega) h5, b2, hl, c2]

theorem doneV_zero {st : RSt} : st.doneV = 0 ↔ st.e = 0 ∧ st.rest.size = 0 := by
  unfold RSt.doneV
  by_cases h : st.e = 0
  · by_cases h2 : st.rest.size = 0 <;> simp [h, h2]
  · simp [h]
theorem empty_of {s : ByteArray} (h : s.size = 0) : s = ByteArray.empty := by
  apply ba_ext
  have : s.data.toList.length = 0 := by simpa using h
  rw [List.eq_nil_of_length_eq_zero this]; rfl

theorem parseSys_print {s : SysM} (hn : namedB s = true) : parseSysM ⟨1, sysStr s⟩ = (s, 0) := by
  have := r_sys hn ByteArray.empty
  rw [ByteArray.append_empty] at this
  unfold parseSysM
  rw [if_pos rfl]
  simp only
  rw [this.1, this.2, if_pos ⟨by rfl, hn⟩]

theorem b_sys {st : RSt} (h : st.sysS.e = 0) : st.e = 0 ∧ st.rest = sysStr st.sysV ++ st.sysS.rest := by
  unfold RSt.sysS at h
  obtain ⟨h5, _, e5⟩ := b_uints _ h
  obtain ⟨_, h4, l0, l1, e4⟩ := b_count h5
  obtain ⟨h3, _, e3⟩ := b_uint h4
  obtain ⟨h2, _, e2⟩ := b_uint h3
  obtain ⟨_, h1, _, e1⟩ := b_opq h2
  obtain ⟨h0, _, e0⟩ := b_uint h1
  refine ⟨h0, ?_⟩
  have hl : ((st.sysV.groups.length : Nat) : Int) = st.s4.manyV 16 := by
    have : st.sysV.groups.length = st.sN := by simp [RSt.sysV, uintsV_length]
    rw [this]; unfold RSt.sN; omega
  unfold sysStr
  rw [hl]
  simp only [ByteArray.append_assoc]
  rw [e0]
  show numStr st.uintV 4 ++ st.s1.rest = _
  rw [e1]
  show numStr st.uintV 4 ++ (numStr (st.s1.opaqueV 255).size 4 ++ (padStr (st.s1.opaqueV 255) ++ st.s2.rest)) = _
  rw [e2]
  show numStr st.uintV 4 ++ (numStr (st.s1.opaqueV 255).size 4 ++ (padStr (st.s1.opaqueV 255) ++ (numStr st.s2.uintV 4 ++ st.s3.rest))) = _
  rw [e3]
  show numStr st.uintV 4 ++ (numStr (st.s1.opaqueV 255).size 4 ++ (padStr (st.s1.opaqueV 255) ++ (numStr st.s2.uintV 4 ++ (numStr st.s3.uintV 4 ++ st.s4.rest)))) = _
  rw [e4]
  show numStr st.uintV 4 ++ (numStr (st.s1.opaqueV 255).size 4 ++ (padStr (st.s1.opaqueV 255) ++ (numStr st.s2.uintV 4 ++ (numStr st.s3.uintV 4 ++ (numStr (st.s4.manyV 16) 4 ++ st.s5.rest))))) = _
  rw [e5]
  rfl

theorem parseSys_yes {a : AuthM} (h : (parseSysM a).2 = 0) : a.flavor = 1 ∧ namedB (parseSysM a).1 = true ∧ a.body = sysStr (parseSysM a).1 := by
  unfold parseSysM at h ⊢
  by_cases hf : a.flavor = 1
  · rw [if_pos hf] at h ⊢
    by_cases hc : (RSt.sysS ⟨a.body, 0⟩).doneV = 0 ∧ namedB (RSt.sysV ⟨a.body, 0⟩) = true
    · rw [if_pos hc]
      obtain ⟨he, hz⟩ := doneV_zero.1 hc.1
      have := (b_sys he).2
      rw [empty_of hz, ByteArray.append_empty] at this
      exact ⟨hf, hc.2, this⟩
    · rw [if_neg hc] at h; exact absurd h (by decide)
  · rw [if_neg hf] at h; exact absurd h (by decide)
theorem print_parseSys {a : AuthM} (h : (parseSysM a).2 = 0) : printSysM (parseSysM a).1 = (a.flavor, a.body, 0) := by
  obtain ⟨h1, h2, h3⟩ := parseSys_yes h
  rw [printSys_yes h2, ← h3, h1]
theorem parseMark_other {a : AuthM} (h : a.flavor ≠ 1296126539) : parseMarkM a = (zeroMark, 112) := by
  unfold parseMarkM; rw [if_neg h]

-- ---- marks
theorem mayB_iff {m : MarkM} : mayB m = true ↔ (1 ≤ m.inst ∧ m.inst ≤ 4611686018427387904) ∧ (1 ≤ m.seq ∧ m.seq ≤ 4294967295) ∧ (1 ≤ m.water ∧ m.water ≤ 4294967295) ∧ namedB m.sys = true := by
  simp [mayB, inB, and_assoc]
theorem printMark_yes {m : MarkM} (hm : mayB m = true) : printMarkM m = (1296126539, markStr m, 0) := by
  obtain ⟨⟨h1, h2⟩, ⟨h3, h4⟩, ⟨h5, h6⟩, hn⟩ := mayB_iff.1 hm
  unfold printMarkM
  rw [if_pos hm, w_hyper (st := newW 1024) m.inst rfl (by omega) (by omega) (by simp [newW])]
  rw [w_hyper m.seq (by rfl) (by omega) (by omega) (by simp [newW, numStr_size])]
  rw [w_hyper m.water (by rfl) (by omega) (by omega) (by simp [newW, ByteArray.size_append, numStr_size])]
  rw [w_sys (by rfl) hn (by simp [newW, ByteArray.size_append, numStr_size])]
  simp [WSt.body, newW, markStr, ByteArray.append_assoc]
theorem printMark_no {m : MarkM} (hm : ¬ mayB m = true) : printMarkM m = (0, ByteArray.empty, 110) := by
  unfold printMarkM; rw [if_neg hm]
theorem parseMark_print {m : MarkM} (hm : mayB m = true) : parseMarkM ⟨1296126539, markStr m⟩ = (m, 0) := by
  obtain ⟨⟨h1, h2⟩, ⟨h3, h4⟩, ⟨h5, h6⟩, hn⟩ := mayB_iff.1 hm
  have hr := r_sys hn ByteArray.empty
  rw [ByteArray.append_empty] at hr
  have e3 : st3 ⟨1296126539, markStr m⟩ = ⟨sysStr m.sys, 0⟩ := by
    unfold st3 st2 st1 markStr; simp only; rw [r_hyper, r_hyper, r_hyper]
  have em : markOf ⟨1296126539, markStr m⟩ = m := by
    unfold markOf
    rw [e3, hr.2]
    unfold st2 st1 markStr; simp only
    rw [r_hyper, r_hyper, r_hyperV _ _ (by omega) (by omega), r_hyperV _ _ (by omega) (by omega), r_hyperV _ _ (by omega) (by omega)]
  unfold parseMarkM
  rw [if_pos rfl, e3, em, hr.1, if_pos ⟨by rfl, hm⟩]
theorem parseMark_yes {a : AuthM} (h : (parseMarkM a).2 = 0) : a.flavor = 1296126539 ∧ mayB (parseMarkM a).1 = true ∧ a.body = markStr (parseMarkM a).1 := by
  unfold parseMarkM at h ⊢
  by_cases hf : a.flavor = 1296126539
  · rw [if_pos hf] at h ⊢
    by_cases hc : (st3 a).sysS.doneV = 0 ∧ mayB (markOf a) = true
    · rw [if_pos hc]
      obtain ⟨he, hz⟩ := doneV_zero.1 hc.1
      obtain ⟨e3, b3⟩ := b_sys he
      rw [empty_of hz, ByteArray.append_empty] at b3
      obtain ⟨e2, b2⟩ := b_hyper (st := st2 a) e3
      obtain ⟨e1, b1⟩ := b_hyper (st := st1 a) e2
      obtain ⟨e0, b0⟩ := b_hyper (st := RSt.mk a.body 0) e1
      obtain ⟨⟨h1, h2⟩, ⟨h3, h4⟩, ⟨h5, h6⟩, hn⟩ := mayB_iff.1 hc.2
      have u0 : U64 (RSt.mk a.body 0).hyperV = (RSt.mk a.body 0).hyperV := U64_of (by exact Int.le_trans (by decide) h1) (by exact Int.lt_of_le_of_lt h2 (by decide))
      have u1 : U64 (st1 a).hyperV = (st1 a).hyperV := U64_of (by exact Int.le_trans (by decide) h3) (by exact Int.lt_of_le_of_lt h4 (by decide))
      have u2 : U64 (st2 a).hyperV = (st2 a).hyperV := U64_of (by exact Int.le_trans (by decide) h5) (by exact Int.lt_of_le_of_lt h6 (by decide))
      rw [u0] at b0; rw [u1] at b1; rw [u2] at b2
      refine ⟨hf, hc.2, ?_⟩
      show a.body = numStr (RSt.mk a.body 0).hyperV 8 ++ (numStr (st1 a).hyperV 8 ++ (numStr (st2 a).hyperV 8 ++ sysStr (st3 a).sysV))
      have b3' : (st2 a).hyper.rest = sysStr (st3 a).sysV := b3
      rw [b3'] at b2
      have b2' : (st1 a).hyper.rest = numStr (st2 a).hyperV 8 ++ sysStr (st3 a).sysV := b2
      rw [b2'] at b1
      have b1' : (RSt.mk a.body 0).hyper.rest = numStr (st1 a).hyperV 8 ++ (numStr (st2 a).hyperV 8 ++ sysStr (st3 a).sysV) := b1
      rw [b1'] at b0
      exact b0
    · rw [if_neg hc] at h; exact absurd h (by decide)
  · rw [if_neg hf] at h; exact absurd h (by decide)
theorem print_parseMark {a : AuthM} (h : (parseMarkM a).2 = 0) : printMarkM (parseMarkM a).1 = (a.flavor, a.body, 0) := by
  obtain ⟨h1, h2, h3⟩ := parseMark_yes h
  rw [printMark_yes h2, ← h3, h1]
theorem markStr_tail (m : MarkM) : (markStr m).extract 24 (markStr m).size = sysStr m.sys := by
  have e : markStr m = (numStr m.inst 8 ++ (numStr m.seq 8 ++ numStr m.water 8)) ++ sysStr m.sys := by simp only [markStr, ByteArray.append_assoc]
  rw [e]
  exact ByteArray.extract_append_eq_right (by simp [ByteArray.size_append, numStr_size]) (by rw [ByteArray.size_append])

-- ---- Judge
def mustB (c : CallM) : Bool := decide ((parseMarkM c.cred).2 = 0) && decide ((parseMarkM c.cred).1.seq = c.xid) && decide ((parseMarkM c.cred).1.water ≤ (parseMarkM c.cred).1.seq) && decide (c.verf.flavor = 0 ∧ c.verf.body.size = 0)
theorem judge_is (c : CallM) : (judgeM c).2.1 = mustB c := by
  by_cases hm : c.cred.flavor = 1296126539
  · have h0 : ¬ c.cred.flavor = 0 := by omega
    have h1 : ¬ c.cred.flavor = 1 := by omega
    by_cases hc : (parseMarkM c.cred).2 = 0 ∧ c.xid = (parseMarkM c.cred).1.seq ∧ (parseMarkM c.cred).1.water ≤ (parseMarkM c.cred).1.seq
    · have ec : credM c = ((parseMarkM c.cred).1, true, 0) := by unfold credM; rw [if_neg h0, if_neg h1, if_pos hm, if_pos hc]
      obtain ⟨c1, c2, c3⟩ := hc
      unfold judgeM mustB
      rw [ec]
      by_cases hv : c.verf.flavor = 0 ∧ c.verf.body.size = 0
      · simp [hv, c1, c2, c3]
      · rw [if_pos ⟨rfl, hv⟩, decide_eq_false hv, Bool.and_false]
    · have ec : credM c = (zeroMark, false, 1) := by unfold credM; rw [if_neg h0, if_neg h1, if_pos hm, if_neg hc]
      have : mustB c = false := by
        rw [← Bool.not_eq_true]; intro h
        simp only [mustB, Bool.and_eq_true, decide_eq_true_eq] at h
        exact hc ⟨h.1.1.1, h.1.1.2.symm, h.1.2⟩
      unfold judgeM
      rw [ec, this]
      rfl
  · have hp := parseMark_other hm
    have : mustB c = false := by unfold mustB; rw [hp]; rfl
    rw [this]
    have ec : (credM c).2.1 = false := by
      unfold credM; rw [if_neg hm]
      repeat' split
      all_goals rfl
    unfold judgeM
    split
    · rfl
    · exact ec
theorem judge_mark {c : CallM} (h : (judgeM c).2.1 = true) : judgeM c = ((parseMarkM c.cred).1, true, 0) ∧ (parseMarkM c.cred).2 = 0 ∧ (parseMarkM c.cred).1.seq = c.xid ∧ (parseMarkM c.cred).1.water ≤ (parseMarkM c.cred).1.seq ∧ c.verf.flavor = 0 ∧ c.verf.body.size = 0 := by
  have hm : mustB c = true := by rw [← judge_is]; exact h
  simp only [mustB, Bool.and_eq_true, decide_eq_true_eq] at hm
  obtain ⟨⟨⟨m1, m2⟩, m3⟩, m4⟩ := hm
  have hf := (parseMark_yes m1).1
  have ec : credM c = ((parseMarkM c.cred).1, true, 0) := by unfold credM; rw [if_neg (by omega), if_neg (by omega), if_pos hf, if_pos ⟨m1, m2.symm, m3⟩]
  refine ⟨?_, m1, m2, m3, m4⟩
  unfold judgeM
  rw [ec, if_neg (by simp [m4])]
end Go.Proofs.YtbegjpmifcnieaaGreatDoor
