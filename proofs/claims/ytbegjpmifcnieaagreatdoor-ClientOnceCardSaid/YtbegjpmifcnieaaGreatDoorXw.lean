/- The Writer of package xdr: what each of its methods does to the bytes, the room and the error that it holds. -/
import Derived.Test.YtbegjpmifcnieaaGreatDoorProg
import Derived.Test.YtbegjpmifcnieaaGreatDoorBase
namespace Go.Proofs.YtbegjpmifcnieaaGreatDoor
open Go.RowKit
set_option linter.unusedVariables false
set_option linter.unusedSimpArgs false

/-- what is wrong, as a value. -/
def errV (e : Int) : Value := if e = 0 then .nilIface else .iface 356 (.agg #[.int .i64 e])

theorem errV_form (e : Int) : (e = 0 ∧ errV e = .nilIface) ∨ (e ≠ 0 ∧ errV e = .iface 356 (.agg #[.int .i64 e])) := by
  unfold errV; by_cases h : e = 0 <;> simp [h]

def firstE (was is : Int) : Int := if was = 0 then is else was

structure WSt where
  out : ByteArray
  most : Int
  e : Int

/-- A Writer. -/
structure Wr (w : World) (F : Nat → Prop) (b : Nat) (st : WSt) : Prop where
  self : F b
  low : ∀ k, F k → k < w.heap.size
  most : 0 ≤ st.most ∧ st.most ≤ 9223372036854775807
  row : ∃ v, w.heap[b]? = some (.cells #[v, .int .i64 st.most, errV st.e] 321 (0, 0)) ∧ w.ownsRow 0 5 1 v st.out.size (Lib.strCells st.out) ∧ ∀ g, v.ownBlock = some g → F g ∧ g ≠ b

def WSt.fail (st : WSt) (e : Int) : WSt := if st.e = 0 then { st with e := e } else st
def WSt.lays (st : WSt) (s : ByteArray) : WSt :=
  if st.e = 0 then (if st.most - st.out.size < s.size then { st with e := 23 } else { st with out := st.out ++ s }) else st

theorem Tryz.infoU8 : (Tryz.prog.info? 5).map (fun i => (i.zero, i.size, i.bytes)) = some (some (.int .u8 0), 1, 1) := by kernel_rfl

theorem first_any (e n : Int) (w : World) : Calls Tryz.prog 251 #[errV e, .int .i64 n] w fun r w' => r = .returned (errV (firstE e n)) ∧ w = w' := by
  unfold firstE
  by_cases he : e = 0
  · by_cases hn : n = 0
    · subst he hn
      simp only [errV, if_true]
      go_enter Tryz.func251, Tryz.ntmps251
      go_wp2
      go_ret
      exact ⟨rfl, rfl⟩
    · subst he
      simp only [errV, if_true, if_neg hn]
      have hn' : (n == 0) = false := by simpa using hn
      go_enter Tryz.func251, Tryz.ntmps251
      go_wp2
      go_ret
      exact ⟨rfl, rfl⟩
  · simp only [errV, if_neg he]
    go_enter Tryz.func251, Tryz.ntmps251
    go_wp2
    go_ret
    exact ⟨rfl, rfl⟩


theorem Wr.fail {w : World} {F : Nat → Prop} {b : Nat} {st : WSt} (h : Wr w F b st) (n : Int) :
    Wr (w.setCell ⟨b, 2, none⟩ (errV (firstE st.e n))) F b (st.fail n) := by
  obtain ⟨v, hb, ho, hg⟩ := h.row
  refine ⟨h.self, by rw [World.size_setCell]; exact h.low, ?_, v, ?_, ?_, hg⟩
  · unfold WSt.fail; split <;> exact h.most
  · rw [setOf' hb]
    unfold WSt.fail firstE
    by_cases he : st.e = 0 <;> simp [he]
  · have : ((st.fail n).out) = st.out := by unfold WSt.fail; split <;> rfl
    rw [this]
    exact ownsRow_setCell_other ho (fun e => (hg b e).2 rfl) _

/-- (*Writer).Fail -/
theorem Wfail_any {F : Nat → Prop} {b : Nat} {st : WSt} (n : Int) (w : World) (h : Wr w F b st) :
    Calls Tryz.prog 218 #[.pointer (some ⟨b, 0, none⟩), .int .i64 n] w fun r w' => r = .returned (.tuple #[]) ∧ Fr F w w' ∧ w'.heap.size = w.heap.size ∧ Wr w' F b (st.fail n) := by
  have hf := h.fail n
  obtain ⟨v, hb, ho, hg⟩ := h.row
  have c2 := cellOf hb 2
  have f2 := freeOf hb 2
  simp at c2
  rcases errV_form (firstE st.e n) with ⟨-, hz⟩ | ⟨-, hz⟩
  all_goals
    rw [hz] at hf
    go_enter Tryz.func218, Tryz.ntmps218
    go_wp2_with (go_at_call 251; refine (first_any _ _ _).mono ?_; rintro e w' ⟨rfl, rfl⟩)
    go_end0
    exact ⟨rfl, (Fr.refl _ _).setCell (.inl h.self) _, by simp, hf⟩

theorem Wr.heap {w w' : World} {F : Nat → Prop} {b : Nat} {st : WSt} (h : Wr w F b st) (hh : w'.heap = w.heap) : Wr w' F b st := by
  obtain ⟨v, hb, ho, hg⟩ := h.row
  exact ⟨h.self, by rw [hh]; exact h.low, h.most, v, by rw [hh]; exact hb, ownsRow_heap hh ho, hg⟩
theorem ownsRow_keep {w w' : World} {base e size n : Nat} {v : Value} {xs : List Value} (h : w.ownsRow base e size v n xs) (hk : ∀ g, v.ownBlock = some g → w'.heap[g]? = w.heap[g]?) : w'.ownsRow base e size v n xs := by
  refine ⟨h.1, ?_⟩
  rcases h.2 with h | ⟨g, cap, cur, rfl, hb, hg, hr⟩
  · exact .inl h
  · exact .inr ⟨g, cap, cur, rfl, hb, by rw [hk g rfl]; exact hg, hr⟩
theorem ownsRow_below {w w' : World} {base e size n : Nat} {v : Value} {xs : List Value} (hb : Below w.heap.size w w') (h : w.ownsRow base e size v n xs) : w'.ownsRow base e size v n xs :=
  ownsRow_keep h (fun g e => hb.block g (h.lt g e).2)
/-- A Writer that lies apart from what has changed. -/
theorem Wr.keep {w w' : World} {F : Nat → Prop} {b : Nat} {st : WSt} (h : Wr w F b st) (hs : w.heap.size ≤ w'.heap.size) (hk : ∀ g, F g → w'.heap[g]? = w.heap[g]?) : Wr w' F b st := by
  obtain ⟨v, hb, ho, hg⟩ := h.row
  exact ⟨h.self, fun k hk => Nat.lt_of_lt_of_le (h.low k hk) hs, h.most, v, by rw [hk b h.self]; exact hb, ownsRow_keep ho (fun g e => hk g (hg g e).1), hg⟩
theorem Wr.below {w w' : World} {F : Nat → Prop} {b : Nat} {st : WSt} (h : Wr w F b st) (hb : Below w.heap.size w w') : Wr w' F b st :=
  h.keep hb.size (fun g hg => hb.block g (h.low g hg))
theorem Wr.fr {w w' : World} {F S : Nat → Prop} {b : Nat} {st : WSt} (h : Wr w F b st) (hf : Fr S w w') (hd : ∀ g, F g → ¬ S g) : Wr w' F b st :=
  h.keep hf.size (fun g hg => hf.block g (h.low g hg) (hd g hg))

theorem Wr.mono {w : World} {F F' : Nat → Prop} {b : Nat} {st : WSt} (h : Wr w F b st) (hF : ∀ k, F k → F' k) (hl : ∀ k, F' k → k < w.heap.size) : Wr w F' b st := by
  obtain ⟨v, hb, ho, hg⟩ := h.row
  exact ⟨hF _ h.self, hl, h.most, v, hb, ho, fun g e => ⟨hF _ (hg g e).1, (hg g e).2⟩⟩
theorem Wr.late {w0 w w' : World} {F : Nat → Prop} {b : Nat} {st : WSt} (h : Wr w' (Gw F w w') b st) (hs : w0.heap.size ≤ w.heap.size) (hl : ∀ k, F k → k < w0.heap.size) (hs' : w.heap.size ≤ w'.heap.size) : Wr w' (Gw F w0 w') b st :=
  h.mono (fun k hk => hk.imp id (fun h => ⟨Nat.le_trans hs h.1, h.2⟩)) (fun k hk => hk.elim (fun h => by have := hl k h; omega) (fun h => h.2))

theorem Wr.gw {w w' : World} {F : Nat → Prop} {b : Nat} {st : WSt} (h : Wr w' F b st) : Wr w' (Gw F w w') b st := by
  obtain ⟨v, hb, ho, hg⟩ := h.row
  exact ⟨.inl h.self, fun k hk => hk.elim (h.low k) (fun h => h.2), h.most, v, hb, ho, fun g hv => ⟨.inl (hg g hv).1, (hg g hv).2⟩⟩

theorem lays_size {st : WSt} {s : ByteArray} {v' : Value} {w' : World} (h : w'.ownsRow 0 5 1 v' (st.out.size + s.size) (Lib.strCells st.out ++ Lib.strCells s)) :
    w'.ownsRow 0 5 1 v' (st.out ++ s).size (Lib.strCells (st.out ++ s)) := by
  rw [strCells_append, ByteArray.size_append]; exact h

set_option maxRecDepth 100000 in
/-- (*Writer).lays -/
theorem Wlays_any {F : Nat → Prop} {b : Nat} {st : WSt} (s : ByteArray) (w : World) (h : Wr w F b st) (hs : st.out.size + s.size ≤ 140737488355328 ∨ (st.out.size ≤ 1099511627776 ∧ st.most ≤ 1099511627776 ∧ s.size ≤ 140737488355328)) :
    Calls Tryz.prog 219 #[.pointer (some ⟨b, 0, none⟩), .string s] w fun r w' => r = .returned (.tuple #[]) ∧ Fr F w w' ∧ Wr w' (Gw F w w') b (st.lays s) := by
  obtain ⟨i0, hi, hz0, hz1, hz2⟩ := info_parts Tryz.infoU8
  obtain ⟨v, hb, ho, hg⟩ := h.row
  have c0 := cellOf hb 0
  have c1 := cellOf hb 1
  have c2 := cellOf hb 2
  have f0 := freeOf hb 0
  simp at c0 c1 c2
  have hm := h.most
  have hsz : st.out.size ≤ 140737488355328 := by omega
  by_cases he : st.e = 0
  · have hz : errV st.e = .nilIface := by simp [errV, he]
    rw [hz] at c2
    by_cases hlt : st.most - st.out.size < s.size
    · have hq : st.lays s = st.fail 23 := by simp [WSt.lays, WSt.fail, he, hlt]
      rw [hq]
      clear hq
      obtain ⟨A, c, rfl⟩ : ∃ A c, v = .slice A st.out.size c := owns_slice ho
      clear ho hg hb
      go_enter Tryz.func219, Tryz.ntmps219
      go_wp2
      go_quiet (fail)
      go_wp2_with (go_at_call 218; refine (Wfail_any _ _ (h.heap (heap_drewN _ _))).mono ?_; rintro e w' ⟨rfl, hfr, hsz', hw'⟩)
      go_end0
      exact ⟨rfl, Fr.ofDrewN hfr, hw'.gw⟩
    · have hq : st.lays s = { st with out := st.out ++ s } := by simp [WSt.lays, he, hlt]
      rw [hq]
      clear hq
      obtain ⟨A, c, rfl⟩ : ∃ A c, v = .slice A st.out.size c := owns_slice ho
      have hlt' := Int.not_lt.1 hlt
      have hs' : st.out.size + s.size ≤ 140737488355328 := by omega
      have hsz2 : s.size ≤ 140737488355328 := by omega
      have Hb := Lib.hid hb
      have Hg := Lib.hid hg
      have Ho := Lib.hid ho
      clear hb hg ho hlt
      go_enter Tryz.func219, Tryz.ntmps219
      go_wp2
      go_quiet (fail)
      go_wp2_with (at_builtin; refine wpList_append_str_at rfl (.tmp 8) (.tmp 9) 284 9 rfl 5 i0 Tryz.underlying284 Tryz.underlying9 hi hz0 hz1 hz2 _ st.out.size _ rfl (ownsRow_heap rfl Ho.out) s rfl (by omega) ?_)
      intro v' w' hown hgrow hat
      obtain ⟨A', c', rfl⟩ := owns_slice hown
      have hne : (Value.slice A st.out.size c).ownBlock ≠ some b := fun e => (Hg.out b e).2 rfl
      have hb' := grown_block hgrow Hb.out hne
      have c0' := cellOf hb' 0
      have f0' := freeOf hb' 0
      simp at c0'
      have Hr := Lib.hid hown
      have Hw := Lib.hid hgrow
      have Hb' := Lib.hid hb'
      have Hat := Lib.hid hat
      clear hown hgrow hb' c0 c1 c2 f0 hat
      go_wp2
      go_end0
      have hlow := h.low b h.self
      have hfr : Fr F w w' := Fr.ofDrewN ((Fr.refl F (w.drewN nq)).grown Hw.out (fun k e => .inl (Hg.out k e).1))
      have hin : ∀ g, (Value.slice A' (st.out.size + s.size) c').ownBlock = some g → Gw F w w' g ∧ g ≠ b := by
        intro g e
        have hlt := (Hr.out.lt g e).2
        rcases Hat.out with h1 | h1
        · have := Hg.out g (h1 ▸ e)
          exact ⟨.inl this.1, this.2⟩
        · rw [h1] at e
          injection e with e
          exact ⟨.inr ⟨by omega, hlt⟩, by omega⟩
      refine ⟨rfl, hfr.setCell (.inl h.self) _, .inl h.self, ?_, hm, ?_⟩
      · intro k hk
        rw [World.size_setCell]
        rcases hk with hk | hk
        · exact Nat.lt_of_lt_of_le (h.low k hk) hfr.size
        · rw [World.size_setCell] at hk; exact hk.2
      · refine ⟨_, (setOf' Hb'.out 0 _).trans (by rw [hz]; rfl), ?_, fun g e => ?_⟩
        · exact ownsRow_setCell_other (lays_size Hr.out) (fun e => (hin b e).2 rfl) _
        · have := hin g e
          exact ⟨by unfold Gw; rw [World.size_setCell]; exact this.1, this.2⟩
  · have hq : st.lays s = st := by simp [WSt.lays, he]
    rw [hq]
    clear hq
    have hz : errV st.e = .iface 356 (.agg #[.int .i64 st.e]) := by simp [errV, he]
    rw [hz] at c2
    clear c0 c1 f0
    go_enter Tryz.func219, Tryz.ntmps219
    go_wp2
    go_end0
    exact ⟨rfl, Fr.refl _ _, h.gw⟩

end Go.Proofs.YtbegjpmifcnieaaGreatDoor
