/- A Writer that was made since a world, and boxes beside it that stay as they are. -/
import Derived.Test.YtbegjpmifcnieaaGreatDoorMa
namespace Go.Proofs.YtbegjpmifcnieaaGreatDoor
open Go.RowKit
set_option linter.unusedVariables false
set_option linter.unusedSimpArgs false

structure WBo (w0 : World) (b : Nat) (B : List (Nat × Obj)) (w : World) (st : WSt) : Prop where
  fr : Fr (fun _ => False) w0 w
  wr : ∃ F, Wr w F b st ∧ (∀ k, F k → w0.heap.size ≤ k) ∧ ∀ p ∈ B, ¬ F p.1
  ok : WOk st
  box : ∀ p ∈ B, w.heap[p.1]? = some p.2

section
variable {w0 w w' : World} {b : Nat} {B : List (Nat × Obj)} {st st' : WSt}
theorem WBo.start {F : Nat → Prop} (hf : Fr (fun _ => False) w0 w) (hw : Wr w F b st) (hF : ∀ k, F k → w0.heap.size ≤ k) (hk : WOk st) : WBo w0 b [] w st :=
  ⟨hf, ⟨F, hw, hF, fun _ h => nomatch h⟩, hk, fun _ h => nomatch h⟩
theorem WBo.at (h : WBo w0 b B w st) (i : Nat) {k : Nat} {o : Obj} (hi : B[i]? = some (k, o)) : w.heap[k]? = some o := h.box (k, o) (List.mem_of_getElem? hi)
/-- an elder block beside the Writer. -/
theorem WBo.beside (h : WBo w0 b B w st) {k : Nat} {o : Obj} (hk : w.heap[k]? = some o) (hn : ∀ F, Wr w F b st → (∀ j, F j → w0.heap.size ≤ j) → (∀ p ∈ B, ¬ F p.1) → ¬ F k) : WBo w0 b ((k, o) :: B) w st := by
  obtain ⟨F, hw, hF, hB⟩ := h.wr
  refine ⟨h.fr, ⟨F, hw, hF, fun p hp => ?_⟩, h.ok, fun p hp => ?_⟩
  · rcases List.mem_cons.1 hp with rfl | hp
    · exact hn F hw hF hB
    · exact hB p hp
  · rcases List.mem_cons.1 hp with rfl | hp
    · exact hk
    · exact h.box p hp
theorem WBo.stay (h : WBo w0 b B w st) (hf : Fr (fun _ => False) w w') : WBo w0 b B w' st := by
  obtain ⟨F, hw, hF, hB⟩ := h.wr
  exact ⟨h.fr.trans hf, ⟨F, hw.fr hf (fun _ _ h => h), hF, hB⟩, h.ok, fun p hp => (hf.block _ (lt_of_block (h.box p hp)) id).trans (h.box p hp)⟩
theorem WBo.more (h : WBo w0 b B w st) (o : Obj) {n : Nat} (hn : n = w.heap.size) : WBo w0 b ((n, o) :: B) (w.alloc o) st := by
  subst hn
  obtain ⟨F, hw, hF, hB⟩ := h.wr
  have h2 := h.stay (w' := w.alloc o) ((Fr.refl _ _).alloc o)
  obtain ⟨F2, hw2, hF2, hB2⟩ := h2.wr
  refine ⟨h2.fr, ⟨F, hw.fr (S := fun _ => False) ((Fr.refl _ _).alloc o) (fun _ _ h => h), hF, fun p hp => ?_⟩, h.ok, fun p hp => ?_⟩
  · rcases List.mem_cons.1 hp with rfl | hp
    · exact fun hk => Nat.lt_irrefl _ (hw.low _ hk)
    · exact hB p hp
  · rcases List.mem_cons.1 hp with rfl | hp
    · exact heap_alloc_new w o
    · exact h2.box p hp
/-- what was made meanwhile, one block of it kept. -/
theorem WBo.row (h : WBo w0 b B w st) (hf : Fr (fun _ => False) w w') {g : Nat} (hg : w.heap.size ≤ g) (hl : g < w'.heap.size) : ∃ o, WBo w0 b ((g, o) :: B) w' st := by
  obtain ⟨F, hw, hF, hB⟩ := h.wr
  have h2 := h.stay hf
  refine ⟨w'.heap[g], h2.fr, ⟨F, hw.fr hf (fun _ _ h => h), hF, fun p hp => ?_⟩, h.ok, fun p hp => ?_⟩
  · rcases List.mem_cons.1 hp with rfl | hp
    · exact fun hk => absurd (hw.low _ hk) (by show ¬ g < _; omega)
    · exact hB p hp
  · rcases List.mem_cons.1 hp with rfl | hp
    · exact Array.getElem?_eq_getElem hl
    · exact h2.box p hp
theorem WBo.less {p : Nat × Obj} (h : WBo w0 b (p :: B) w st) : WBo w0 b B w st := by
  obtain ⟨F, hw, hF, hB⟩ := h.wr
  exact ⟨h.fr, ⟨F, hw, hF, fun p hp => hB p (List.mem_cons_of_mem _ hp)⟩, h.ok, fun p hp => h.box p (List.mem_cons_of_mem _ hp)⟩
theorem WBo.call {P : Program} {f : Nat} {args : Array Value} {x : Ending} (h : WBo w0 b B w st) (hk : WOk st')
    (hc : ∀ F, Wr w F b st → (∀ p ∈ B, ¬ F p.1) → Calls P f args w fun r w' => r = x ∧ Fr F w w' ∧ Wr w' (Gw F w w') b st') :
    Calls P f args w fun r w' => r = x ∧ WBo w0 b B w' st' := by
  obtain ⟨F, hw, hF, hB⟩ := h.wr
  refine (hc F hw hB).mono fun r w' ⟨hr, hf, hw'⟩ => ⟨hr, ⟨h.fr.then hf (fun i hi e => absurd (hF i e) (by omega)), ⟨_, hw', fun k hk => hk.elim (hF k) (fun h' => Nat.le_trans h.fr.size h'.1), fun p hp hk => hk.elim (hB p hp) (fun h' => absurd (lt_of_block (h.box p hp)) (by omega))⟩, hk, fun p hp => (hf.block _ (lt_of_block (h.box p hp)) (hB p hp)).trans (h.box p hp)⟩⟩
theorem WBo.layAuth (h : WBo w0 b B w st) (a : AuthM) (hs : a.body.size ≤ 140737488351232) :
    Calls Tryz.prog 150 #[.pointer (some ⟨b, 0, none⟩), .agg #[.int .i64 a.flavor, .string a.body]] w fun r w' => r = .returned (.tuple #[]) ∧ WBo w0 b B w' (st.auth a) :=
  h.call (h.ok.auth a) (fun _ hw _ => layAuth_wr a w hw h.ok hs)
theorem WBo.raw (h : WBo w0 b B w st) (s : ByteArray) (hs : s.size ≤ 140737488351232) :
    Calls Tryz.prog 151 #[.pointer (some ⟨b, 0, none⟩), .string s] w fun r w' => r = .returned (.tuple #[]) ∧ WBo w0 b B w' (st.raw s) :=
  h.call (h.ok.raw s) (fun _ hw _ => WRaw_any s w hw (by have := h.ok.size; have := h.ok.2; omega))
theorem WBo.lay (h : WBo w0 b B w st) (ps : List Addr) (xs : List Int) {base c g : Nat} (hn : ps.length ≤ 1000)
    (ho : w.ownsRow base 326 3 (.slice (some ⟨g, 0, none⟩) ps.length c) ps.length (fieldCells ps)) (hg : ∃ o, (g, o) ∈ B) (hx : NumsAt w ps xs) (hp : ∀ j, j < ps.length → ∃ o, ((ps.getD j default).block, o) ∈ B) :
    Calls Tryz.prog 147 #[.pointer (some ⟨b, 0, none⟩), .slice (some ⟨g, 0, none⟩) ps.length c] w fun r w' => r = .returned (.tuple #[]) ∧ WBo w0 b B w' (st.uints xs) :=
  h.call (h.ok.uints xs) (fun F hw hB => (lay_any (Wi.begin hw h.ok) ps xs hn ho
      (fun hk => hk.elim (fun h' => by obtain ⟨o, ho⟩ := hg; exact hB _ ho h') (fun h' => absurd (ho.lt g rfl).2 (by omega))) hx
      (fun j hj hk => by
        obtain ⟨o, ho⟩ := hp j hj
        exact hk.elim (fun h' => hB _ ho h') (fun h' => absurd (lt_of_block (h.box _ ho)) (by show ¬ (ps.getD j default).block < _; omega)))).mono
    fun r w' ⟨hr, hi, hf⟩ => ⟨hr, hi.fr, hi.finish hw.low⟩)
theorem WBo.done (h : WBo w0 b B w st) (ok : Bool) (hg : ErrT w) :
    Calls Tryz.prog 152 #[.pointer (some ⟨b, 0, none⟩), .bool ok] w fun r w' => r = .returned (.tuple #[.string (doneM st ok).1, .int .i64 (doneM st ok).2]) ∧ Fr (fun _ => False) w w' := by
  obtain ⟨F, hw, _, _⟩ := h.wr
  exact mdone_any (Wi.begin hw h.ok) ok hg
end

set_option maxRecDepth 100000 in
theorem lay_none (b c : Nat) (A : Option Addr) (w : World) :
    Calls Tryz.prog 147 #[.pointer (some ⟨b, 0, none⟩), .slice A 0 c] w fun r w' => r = .returned (.tuple #[]) ∧ w = w' := by
  go_enter Tryz.func147, Tryz.ntmps147
  go_wp2
  go_loopw [8] (fun i wr => i = .int .i64 0 ∧ w = wr) (fun _ _ => 0)
  case atStart => exact ⟨rfl, rfl⟩
  case round =>
    obtain ⟨rfl, rfl⟩ := hrel
    go_wp2
    go_end0
    exact ⟨rfl, rfl⟩
theorem WBo.layRow {w0 w : World} {b : Nat} {B : List (Nat × Obj)} {st : WSt} (h : WBo w0 b B w st) (ps : List Addr) (xs : List Int) {base c n : Nat} {A : Option Addr} (hn : ps.length ≤ 1000) (hl : ps.length = n)
    (ho : w.ownsRow base 326 3 (.slice A n c) ps.length (fieldCells ps)) (hg : ∀ g, A = some ⟨g, 0, none⟩ → ∃ o, (g, o) ∈ B) (hx : NumsAt w ps xs) (hp : ∀ j, j < ps.length → ∃ o, ((ps.getD j default).block, o) ∈ B) :
    Calls Tryz.prog 147 #[.pointer (some ⟨b, 0, none⟩), .slice A n c] w fun r w' => r = .returned (.tuple #[]) ∧ WBo w0 b B w' (st.uints xs) := by
  subst hl
  by_cases h0 : 0 < ps.length
  · obtain ⟨g, c', e, h1, h2⟩ := owns_some ho h0
    injection e with e1 e2 e3
    subst e1 e3
    exact h.lay ps xs hn ho (hg g rfl) hx hp
  · have hz : ps.length = 0 := by omega
    have hxs : xs = [] := List.eq_nil_of_length_eq_zero (by rw [← hx.1]; exact hz)
    subst hxs
    rw [hz]
    exact (lay_none b c A w).mono fun r w' ⟨h1, h2⟩ => ⟨h1, by subst h2; exact h⟩

theorem WBo.rowA {w0 w w' : World} {b : Nat} {B : List (Nat × Obj)} {st : WSt} {q : Nat × Obj} (h : WBo w0 b (q :: B) w st) (hf : Fr (fun _ => False) w w') {A : Option Addr} {n c m e sz : Nat} {xs : List Value}
    (ho : w'.ownsRow w.heap.size e sz (.slice A n c) m xs) : ∃ k o, WBo w0 b ((k, o) :: q :: B) w' st ∧ ∀ g, A = some ⟨g, 0, none⟩ → g = k := by
  rcases ho.2 with ⟨hv, _⟩ | ⟨g, cap, cur, hv, hb, hg, _⟩
  · injection hv with e1 _ _
    subst e1
    have h2 := h.stay hf
    obtain ⟨F, hw, hF, hB⟩ := h2.wr
    refine ⟨q.1, q.2, ⟨h2.fr, ⟨F, hw, hF, fun p hp => ?_⟩, h2.ok, fun p hp => ?_⟩, fun g hg => nomatch hg⟩
    · rcases List.mem_cons.1 hp with rfl | hp
      · exact hB _ (List.mem_cons_self ..)
      · exact hB p hp
    · rcases List.mem_cons.1 hp with rfl | hp
      · exact h2.box _ (List.mem_cons_self ..)
      · exact h2.box p hp
  · injection hv with e1 _ _
    subst e1
    obtain ⟨o, h3⟩ := h.row hf hb (lt_of_block hg)
    exact ⟨g, o, h3, fun g' e => by injection e with e; injection e with e; exact e.symm⟩
theorem row_of_box {w w' : World} {A : Option Addr} {n c m e sz base k : Nat} {o : Obj} {xs : List Value} (ho : w.ownsRow base e sz (.slice A n c) m xs) (hA : ∀ g, A = some ⟨g, 0, none⟩ → g = k) (h1 : w.heap[k]? = some o) (h2 : w'.heap[k]? = some o) :
    w'.ownsRow base e sz (.slice A n c) m xs := by
  refine ownsRow_keep ho (fun g hg => ?_)
  have hk : g = k := by
    rcases ho.2 with ⟨hv, _⟩ | ⟨g', cap, cur, hv, _⟩
    · rw [hv] at hg; cases hg
    · injection hv with e1 _ _
      subst e1
      injection hg with hg
      rw [← hg]
      exact hA g' rfl
  rw [hk, h1, h2]
theorem WBo.new (x : Obj) {w w1 : World} {st : WSt} (hf : Fr (fun _ => False) (w.alloc x) w1) (hw : Wr w1 (fun k => k = w.heap.size + 1) (w.heap.size + 1) st) (hk : WOk st) : WBo w (w.heap.size + 1) [(w.heap.size, x)] w1 st :=
  ⟨((Fr.refl _ _).alloc _).then hf (fun _ _ h => h), ⟨_, hw, fun k hk => by omega, fun p hp hk => by rw [List.mem_singleton.1 hp] at hk; exact absurd hk (by show ¬ w.heap.size = _; omega)⟩, hk, fun p hp => by rw [List.mem_singleton.1 hp]; exact (hf.block w.heap.size (by simp) id).trans (heap_alloc_new w x)⟩
theorem nums3 {w : World} {p q t : Addr} {x y z : Int} (h0 : w.cell? p = some (.int .i64 x)) (h1 : w.cell? q = some (.int .i64 y)) (h2 : w.cell? t = some (.int .i64 z)) : NumsAt w [p, q, t] [x, y, z] := by
  refine ⟨rfl, fun j hj => ?_⟩
  match j, hj with
  | 0, _ => exact h0
  | 1, _ => exact h1
  | 2, _ => exact h2
theorem nums1 {w : World} {p : Addr} {x : Int} (h0 : w.cell? p = some (.int .i64 x)) : NumsAt w [p] [x] := by
  refine ⟨rfl, fun j hj => ?_⟩
  match j, hj with
  | 0, _ => exact h0
theorem ptrs3 {w : World} {g T : Nat} {p q t : Addr} (h : w.heap[g]? = some (.cells #[.pointer (some p), .pointer (some q), .pointer (some t)] T (0, 0))) : ∀ j, j < ([p, q, t] : List Addr).length → w.cell? ⟨g, j, none⟩ = some (.pointer (some (([p, q, t] : List Addr).getD j default))) := by
  intro j hj
  match j, hj with
  | 0, _ => exact cellOf h 0
  | 1, _ => exact cellOf h 1
  | 2, _ => exact cellOf h 2
theorem ptrs1 {w : World} {g T : Nat} {p : Addr} (h : w.heap[g]? = some (.cells #[.pointer (some p)] T (0, 0))) : ∀ j, j < ([p] : List Addr).length → w.cell? ⟨g, j, none⟩ = some (.pointer (some (([p] : List Addr).getD j default))) := by
  intro j hj
  match j, hj with
  | 0, _ => exact cellOf h 0
theorem in3 {B : List (Nat × Obj)} {p q t : Addr} (h0 : ∃ o, (p.block, o) ∈ B) (h1 : ∃ o, (q.block, o) ∈ B) (h2 : ∃ o, (t.block, o) ∈ B) : ∀ j, j < ([p, q, t] : List Addr).length → ∃ o, ((([p, q, t] : List Addr).getD j default).block, o) ∈ B := by
  intro j hj
  match j, hj with
  | 0, _ => exact h0
  | 1, _ => exact h1
  | 2, _ => exact h2
theorem in1 {B : List (Nat × Obj)} {p : Addr} (h0 : ∃ o, (p.block, o) ∈ B) : ∀ j, j < ([p] : List Addr).length → ∃ o, ((([p] : List Addr).getD j default).block, o) ∈ B := by
  intro j hj
  match j, hj with
  | 0, _ => exact h0

theorem shN_at {w : World} {b T : Nat} {r : ReplyM} (h : ReplyAt w b T r) : NumsAt w (shP b r) (shN r) := by
  refine ⟨by rw [shP_len]; simp [shN], fun j hj => ?_⟩
  rw [shP_len] at hj
  rw [shP_at b r j hj, (h.num (shO_at hj)).1]
  have e : (shN r).getD j 0 = getO r ((shO r).getD j 0) := by
    rw [getD_lt (shO r) 0 hj, getD_lt (shN r) 0 (by simpa [shN] using hj)]
    simp [shN]
  rw [e]
theorem shP_block {b : Nat} {r : ReplyM} {j : Nat} (h : j < (shP b r).length) : ((shP b r).getD j default).block = b := by
  rw [shP_len] at h
  rw [shP_at b r j h]
end Go.Proofs.YtbegjpmifcnieaaGreatDoor
