/- Package message: what its replies are, in plain Lean. -/
import Derived.Test.YtbegjpmifcnieaaGreatDoorMs
import Derived.Test.YtbegjpmifcnieaaGreatDoorPw
import Derived.Test.YtbegjpmifcnieaaGreatDoorXw
import Derived.Laws.Rows
import Derived.Deep.Cut
namespace Go.Proofs.YtbegjpmifcnieaaGreatDoor
open Go.RowKit
set_option linter.unusedVariables false
set_option linter.unusedSimpArgs false

def zeroReply : ReplyM := ⟨0, false, ⟨0, ByteArray.empty⟩, 0, 0, 0, 0, 0, ByteArray.empty⟩
def bare0 (r : ReplyM) : ReplyM := if r.denied = true then { zeroReply with xid := r.xid, denied := true, reject := r.reject } else { zeroReply with xid := r.xid, denied := false, accept := r.accept }
def shO (r : ReplyM) : List Nat :=
  if r.denied = true then (if r.reject = 0 then [7, 8] else if r.reject = 1 then [6] else []) else if r.accept = 2 then [7, 8] else []
theorem shP_map (b : Nat) (r : ReplyM) : shP b r = (shO r).map (fun o => ⟨b, o, none⟩) := by
  unfold shP shO
  split
  · split
    · rfl
    · split <;> rfl
  · split <;> rfl
def getO (r : ReplyM) (o : Nat) : Int := if o = 6 then r.why else if o = 7 then r.low else r.high
def setO (r y : ReplyM) (o : Nat) : ReplyM := if o = 6 then { y with why := r.why } else if o = 7 then { y with low := r.low } else { y with high := r.high }
def copyO (r : ReplyM) (os : List Nat) (y : ReplyM) : ReplyM := os.foldl (setO r) y
theorem shO_mem {r : ReplyM} {o : Nat} (h : o ∈ shO r) : o = 6 ∨ o = 7 ∨ o = 8 := by
  unfold shO at h
  split at h
  · split at h
    · simp at h; omega
    · split at h <;> simp at h
      omega
  · split at h <;> simp at h
    omega
theorem shO_len (r : ReplyM) : (shO r).length ≤ 2 := by
  unfold shO
  split
  · split
    · exact Nat.le_refl _
    · split <;> simp
  · split <;> simp
theorem shO_bare (r : ReplyM) : shO (bare0 r) = shO r := by
  unfold shO bare0
  by_cases h : r.denied = true
  · rw [if_pos h, if_pos h, if_pos rfl]
  · rw [if_neg h, if_neg h, if_neg (by simp)]
theorem shV_bare (r : ReplyM) : shV (bare0 r) = shV r := by
  unfold shV bare0
  by_cases h : r.denied = true
  · rw [if_pos h, h]; rfl
  · rw [if_neg h]; simp only [Bool.not_eq_true] at h; rw [h]
theorem shR_bare (r : ReplyM) : shR (bare0 r) = shR r := by
  unfold shR bare0
  by_cases h : r.denied = true
  · rw [if_pos h, h]; rfl
  · rw [if_neg h]; simp only [Bool.not_eq_true] at h; rw [h]
def bareM (r : ReplyM) : ReplyM := { copyO r (shO r) (bare0 r) with verf := if shV r = true then r.verf else ⟨0, ByteArray.empty⟩, results := if shR r = true then r.results else ByteArray.empty }

theorem ReplyAt.num {w : World} {b T : Nat} {r : ReplyM} (h : ReplyAt w b T r) {o : Nat} (ho : o = 6 ∨ o = 7 ∨ o = 8) : w.cell? ⟨b, o, none⟩ = some (.int .i64 (getO r o)) ∧ w.frozen? ⟨b, o, none⟩ = false := by
  rcases ho with rfl | rfl | rfl
  · exact ⟨cellOf h 6, freeOf h 6⟩
  · exact ⟨cellOf h 7, freeOf h 7⟩
  · exact ⟨cellOf h 8, freeOf h 8⟩
theorem ReplyAt.setNum {w : World} {b T : Nat} {r y : ReplyM} (h : ReplyAt w b T y) {o : Nat} (ho : o = 6 ∨ o = 7 ∨ o = 8) : ReplyAt (w.setCell ⟨b, o, none⟩ (.int .i64 (getO r o))) b T (setO r y o) := by
  rcases ho with rfl | rfl | rfl
  · exact (setOf' h 6 _).trans rfl
  · exact (setOf' h 7 _).trans rfl
  · exact (setOf' h 8 _).trans rfl
theorem ReplyAt.fr {w w' : World} {S : Nat → Prop} {b T : Nat} {r : ReplyM} (h : ReplyAt w b T r) (hf : Fr S w w') (hs : ¬ S b) : ReplyAt w' b T r := (hf.block b (lt_of_block h) hs).trans h
theorem copyO_succ (r y : ReplyM) (os : List Nat) (k : Nat) (h : k < os.length) : copyO r (os.take (k + 1)) y = setO r (copyO r (os.take k) y) (os.getD k 0) := by
  unfold copyO
  rw [getD_lt os 0 h, List.take_succ_eq_append_getElem h, List.foldl_append]
  rfl

theorem shP_len (b : Nat) (r : ReplyM) : (shP b r).length = (shO r).length := by rw [shP_map]; simp
theorem shP_at (b : Nat) (r : ReplyM) (k : Nat) (h : k < (shO r).length) : (shP b r).getD k default = ⟨b, (shO r).getD k 0, none⟩ := by
  rw [shP_map]
  simp [List.getD, h]
theorem shO_at {r : ReplyM} {k : Nat} (h : k < (shO r).length) : (shO r).getD k 0 = 6 ∨ (shO r).getD k 0 = 7 ∨ (shO r).getD k 0 = 8 := by
  rw [getD_lt (shO r) 0 h]
  exact shO_mem (List.getElem_mem h)

theorem setO_rest (r y : ReplyM) (o : Nat) : (setO r y o).verf = y.verf ∧ (setO r y o).results = y.results := by
  unfold setO; split
  · exact ⟨rfl, rfl⟩
  · split <;> exact ⟨rfl, rfl⟩
theorem copyO_keep (r : ReplyM) (os : List Nat) : ∀ y : ReplyM, (copyO r os y).verf = y.verf ∧ (copyO r os y).results = y.results := by
  induction os with
  | nil => exact fun y => ⟨rfl, rfl⟩
  | cons o os ih => exact fun y => ⟨(ih (setO r y o)).1.trans (setO_rest r y o).1, (ih (setO r y o)).2.trans (setO_rest r y o).2⟩
theorem copyO_rest (r : ReplyM) : (copyO r (shO r) (bare0 r)).verf = ⟨0, ByteArray.empty⟩ ∧ (copyO r (shO r) (bare0 r)).results = ByteArray.empty := by
  rw [(copyO_keep r _ _).1, (copyO_keep r _ _).2]
  unfold bare0
  split <;> exact ⟨rfl, rfl⟩

theorem toList_inj {a b : ByteArray} : (a.toList == b.toList) = true ↔ a = b := by
  rw [beq_iff_eq, ByteArray.toList_eq, ByteArray.toList_eq]
  exact ⟨fun h => ba_ext h, fun h => by rw [h]⟩
theorem empty_iff {a : ByteArray} : a.toList.isEmpty = true ↔ a = ByteArray.empty := by
  rw [isEmpty_size, decide_eq_true_eq]
  exact ⟨empty_of, fun h => by rw [h]; rfl⟩
def sameB (a b : ReplyM) : Bool := (a.xid == b.xid) && (a.denied == b.denied) && (a.verf.flavor == b.verf.flavor) && (a.verf.body.toList == b.verf.body.toList) && (a.accept == b.accept) && (a.reject == b.reject) && (a.why == b.why) && (a.low == b.low) && (a.high == b.high) && (a.results.toList == b.results.toList)
theorem sameB_iff {a b : ReplyM} : sameB a b = true ↔ a = b := by
  obtain ⟨a0, a1, ⟨a2, a3⟩, a4, a5, a6, a7, a8, a9⟩ := a
  obtain ⟨b0, b1, ⟨b2, b3⟩, b4, b5, b6, b7, b8, b9⟩ := b
  have e : ∀ {a b : ByteArray}, a.toList = b.toList ↔ a = b := fun {a b} => by rw [← toList_inj, beq_iff_eq]
  simp only [sameB, Bool.and_eq_true, beq_iff_eq, e, ReplyM.mk.injEq, AuthM.mk.injEq, and_assoc]
def mayReplyB (r : ReplyM) : Bool := shOk r && sameB (bareM r) r && decide (0 ≤ r.why) && decide (r.why ≤ 14) && fitsB r.results
def shN (r : ReplyM) : List Int := (shO r).map (getO r)
def printReplyM (r : ReplyM) : ByteArray × Int :=
  let st0 := (newW 4096).uints [r.xid, 1, if r.denied = true then 1 else 0]
  let st1 := if shV r = true then (st0.auth r.verf).uints [r.accept] else st0.uints [r.reject]
  let st2 := st1.uints (shN r)
  doneM (if shR r = true then st2.raw r.results else st2) (mayReplyB r)
end Go.Proofs.YtbegjpmifcnieaaGreatDoor

/- Rows of cells that are copied whole: a statement that loads a struct from one block and stores it in another; results that lie in a block. -/
namespace Go.Proofs.YtbegjpmifcnieaaGreatDoor
open Go.RowKit
set_option linter.unusedVariables false
set_option linter.unusedSimpArgs false

theorem Fr.setRow {S : Nat → Prop} {a w : World} (h : Fr S a w) {g : Nat} (hg : S g ∨ a.heap.size ≤ g) (cs : Array Value) : Fr S a (w.setRow g cs) :=
  ⟨h.os, h.tape, h.output, by rw [setRow_size]; exact h.size, fun k hk hn => by
    rw [setRow_other w g k cs (hg.elim (fun hp e => hn (by rw [e]; exact hp)) (fun hp => by omega))]; exact h.block k hk hn⟩

theorem wp_copy_row {P : Program} {id T d x y ty0 ty1 : Nat} {pos0 pos1 : String} {af0 af1} {Q : Exit → Act → World → Prop} {a : Act} {w : World} (s g t0 t1 : Nat) (cs old : Array Value) (fs : Array Field)
    (hx : a.eval (.tmp x) = .pointer (some ⟨s, 0, none⟩)) (hs : w.heap[s]? = some (.cells cs t0 (0, 0)))
    (hy : (a.put (some d) (.agg cs)).eval (.tmp y) = .pointer (some ⟨g, 0, none⟩)) (hd : (a.put (some d) (.agg cs)).eval (.tmp d) = .agg cs)
    (hg : w.heap[g]? = some (.cells old t1 (0, 0))) (hu : P.underlying T = some (.struct fs)) (hi : (P.info? T).map (·.size) = some cs.size) (ho : old.size = cs.size) (h1 : cs.all (·.oneCell') = true)
    (h : ∀ w', w'.heap[g]? = some (.cells cs t1 (0, 0)) → Fr (fun k => k = g) w w' → w'.heap.size = w.heap.size → Q .normal ((a.put (some d) (.agg cs)).put none undef) w') :
    (Code.region id #[{ dst := some d, op := .load T (.tmp x), type := ty0, pos := pos0, after := af0, guard := none }, { dst := none, op := .store T (.tmp y) (.tmp d), type := ty1, pos := pos1, after := af1, guard := none }] false).wp P Q a w := by
  refine wp_region_lit (l := [_, _]) ?_
  refine wpList_load_row rfl T (.tmp x) rfl s hx t0 cs (0, 0) (.struct fs) hs hu rfl hi ?_
  refine wpList_store_row rfl T (.tmp y) (.tmp d) rfl g cs hy hd t1 old hg hi ho h1 ?_
  exact h _ (setRow_heap w g old cs t1 (0, 0) hg) (Fr.setRow (S := fun k => k = g) (Fr.refl _ _) (.inl rfl) cs) (by simp)
end Go.Proofs.YtbegjpmifcnieaaGreatDoor
