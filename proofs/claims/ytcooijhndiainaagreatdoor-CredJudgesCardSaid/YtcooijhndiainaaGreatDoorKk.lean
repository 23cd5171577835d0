/- The walk of CredJudges: for every input it tells true. -/
import Derived.Test.YtcooijhndiainaaGreatDoorKq
namespace Go.Proofs.YtcooijhndiainaaGreatDoor
open Go.RowKit

def askedC (a b : CallM) (i : Nat) : CallM := if i = 2 then b else a
def judgedL (a b : CallM) (e : Nat) : List Int := (judgeM (askedC a b e)).1.sys.groups
theorem credM_small (c : CallM) : (credM c).1.sys.groups.length ≤ 16 := by
  unfold credM
  split
  · split <;> exact Nat.le_of_ble_eq_true rfl
  split
  · split <;> exact Nat.le_of_ble_eq_true rfl
  split
  · split
    · exact (parseMark_small c.cred).2
    · exact Nat.le_of_ble_eq_true rfl
  · exact Nat.le_of_ble_eq_true rfl
theorem judgedL_small (a b : CallM) (e : Nat) : (judgedL a b e).length ≤ 16 := by
  unfold judgedL judgeM
  split
  · exact Nat.le_of_ble_eq_true rfl
  · exact credM_small _
theorem callWeigh_small {a b : CallM} (h : ¬ 2147483647 < addsM (callWeighsM a) (callWeighsM b)) : a.cred.body.size ≤ 1099511627776 ∧ b.cred.body.size ≤ 1099511627776 := by
  have key : ∀ a b : Int, ¬ 2147483647 < addsM a b → a ≤ 2147483647 ∧ b ≤ 2147483647 := fun a b hab => by
    unfold addsM at hab; split at hab <;> omega
  have h0 := key _ _ h
  have h1 := key _ _ (Int.not_lt.2 h0.1)
  have h2 := key _ _ (Int.not_lt.2 h1.1)
  have h3 := key _ _ (Int.not_lt.2 h0.2)
  have h4 := key _ _ (Int.not_lt.2 h3.1)
  omega
theorem Judge_own {c : CallM} {m : MarkM} {b : Bool} {e : Int} (h : judgeM c = (m, b, e)) (w : World) (hg : ErrT w) (hs : c.cred.body.size ≤ 1099511627776) :
    Calls Tryz.prog 28 #[.agg #[.int .i64 c.xid, .int .i64 c.rpc, .int .i64 c.prog, .int .i64 c.vers, .int .i64 c.proc, .int .i64 c.cred.flavor, .string c.cred.body, .int .i64 c.verf.flavor, .string c.verf.body, .string c.args]] w fun r w' => Fr (fun _ => False) w w' ∧ ∃ A d, r = .returned (.tuple #[.agg #[.int .i64 m.inst, .int .i64 m.seq, .int .i64 m.water, .int .i64 m.sys.stamp, .string m.sys.machine, .int .i64 m.sys.user, .int .i64 m.sys.group, .slice A m.sys.groups.length d], .bool b, .int .i64 e]) ∧ OwnI w w' A m.sys.groups d := by
  have k := Judge_any c w hg hs
  rw [h] at k
  refine k.mono ?_
  rintro r w' ⟨hf, gv, rfl, hI⟩
  obtain ⟨A, c, rfl⟩ := hI.slice
  exact ⟨hf, A, c, rfl, hI⟩
theorem rJudge_own {c : CallM} {m : MarkM} {b : Bool} {e : Int} (h : judgeM c = (m, b, e)) (w : World) (hs : c.cred.body.size ≤ 1099511627776) :
    Calls Tryz.prog 29 #[.agg #[.int .i64 c.xid, .int .i64 c.rpc, .int .i64 c.prog, .int .i64 c.vers, .int .i64 c.proc, .int .i64 c.cred.flavor, .string c.cred.body, .int .i64 c.verf.flavor, .string c.verf.body, .string c.args]] w fun r w' => Fr (fun _ => False) w w' ∧ ∃ A d, r = .returned (.tuple #[.agg #[.int .i64 m.inst, .int .i64 m.seq, .int .i64 m.water, .int .i64 m.sys.stamp, .string m.sys.machine, .int .i64 m.sys.user, .int .i64 m.sys.group, .slice A m.sys.groups.length d], .bool b, .int .i64 e]) ∧ OwnI w w' A m.sys.groups d := by
  have k := rJudge_any c w hs
  rw [h] at k
  refine k.mono ?_
  rintro r w' ⟨hf, gv, rfl, hI⟩
  obtain ⟨A, c, rfl⟩ := hI.slice
  exact ⟨hf, A, c, rfl, hI⟩

def AskedC (w : World) (b : Nat) (x y : CallM) : Prop := w.heap[b]? = some (Obj.cells #[.int .i64 x.xid, .int .i64 x.rpc, .int .i64 x.prog, .int .i64 x.vers, .int .i64 x.proc, .int .i64 x.cred.flavor, .string x.cred.body, .int .i64 x.verf.flavor, .string x.verf.body, .string x.args, .int .i64 x.xid, .int .i64 x.rpc, .int .i64 x.prog, .int .i64 x.vers, .int .i64 x.proc, .int .i64 x.cred.flavor, .string x.cred.body, .int .i64 x.verf.flavor, .string x.verf.body, .string x.args, .int .i64 y.xid, .int .i64 y.rpc, .int .i64 y.prog, .int .i64 y.vers, .int .i64 y.proc, .int .i64 y.cred.flavor, .string y.cred.body, .int .i64 y.verf.flavor, .string y.verf.body, .string y.args, .int .i64 x.xid, .int .i64 x.rpc, .int .i64 x.prog, .int .i64 x.vers, .int .i64 x.proc, .int .i64 x.cred.flavor, .string x.cred.body, .int .i64 x.verf.flavor, .string x.verf.body, .string x.args] 50 (0, 0))
theorem AskedC.fr' {w w' : World} {b : Nat} {x y : CallM} (h : AskedC w b x y) (hf : Fr (fun _ => False) w w') : AskedC w' b x y := (hf.block b (lt_of_block h) id).trans h
theorem AskedC.cell {w : World} {b : Nat} {x y : CallM} (h : AskedC w b x y) {k : Nat} (hk : k < 4) : w.cell? ⟨b, k * 10, none⟩ = some (.int .i64 (askedC x y k).xid) ∧ w.cell? ⟨b, k * 10 + 1, none⟩ = some (.int .i64 (askedC x y k).rpc) ∧ w.cell? ⟨b, k * 10 + 2, none⟩ = some (.int .i64 (askedC x y k).prog) ∧ w.cell? ⟨b, k * 10 + 3, none⟩ = some (.int .i64 (askedC x y k).vers) ∧ w.cell? ⟨b, k * 10 + 4, none⟩ = some (.int .i64 (askedC x y k).proc) ∧ w.cell? ⟨b, k * 10 + 5, none⟩ = some (.int .i64 (askedC x y k).cred.flavor) ∧ w.cell? ⟨b, k * 10 + 6, none⟩ = some (.string (askedC x y k).cred.body) ∧ w.cell? ⟨b, k * 10 + 7, none⟩ = some (.int .i64 (askedC x y k).verf.flavor) ∧ w.cell? ⟨b, k * 10 + 8, none⟩ = some (.string (askedC x y k).verf.body) ∧ w.cell? ⟨b, k * 10 + 9, none⟩ = some (.string (askedC x y k).args) := by
  rcases (by omega : k = 0 ∨ k = 1 ∨ k = 2 ∨ k = 3) with h1 | h1 | h1 | h1 <;> subst h1
  · exact ⟨cellOf h 0, cellOf h 1, cellOf h 2, cellOf h 3, cellOf h 4, cellOf h 5, cellOf h 6, cellOf h 7, cellOf h 8, cellOf h 9⟩
  · exact ⟨cellOf h 10, cellOf h 11, cellOf h 12, cellOf h 13, cellOf h 14, cellOf h 15, cellOf h 16, cellOf h 17, cellOf h 18, cellOf h 19⟩
  · exact ⟨cellOf h 20, cellOf h 21, cellOf h 22, cellOf h 23, cellOf h 24, cellOf h 25, cellOf h 26, cellOf h 27, cellOf h 28, cellOf h 29⟩
  · exact ⟨cellOf h 30, cellOf h 31, cellOf h 32, cellOf h 33, cellOf h 34, cellOf h 35, cellOf h 36, cellOf h 37, cellOf h 38, cellOf h 39⟩

section
variable {K KM : Nat} {xs : Nat → List Int} {base : Nat} {w w' : World} {lv mv : Value} {L M : List Value}
/-- one row is noted among those that came out. -/
theorem PaI.oneL {w1 : World} {o : Obj} {lv' g1 : Value} (h : PaI K KM xs base w lv L mv M)
    (r1 : w.ownsRow base 3 1 g1 (xs K).length ((xs K).map (Value.int .i64)))
    (d1 : ∀ b, g1.ownBlock = some b → lv.ownBlock ≠ some b ∧ mv.ownBlock ≠ some b ∧ (∀ e, e < K → (gAt L e).ownBlock ≠ some b))
    (ho : w1.ownsRow base 22 1 lv' (K + 1) (L ++ [g1])) (hg : (w.alloc o).grownBy w1 lv.ownBlock) (hat : lv'.ownBlock = lv.ownBlock ∨ lv'.ownBlock = some (w.alloc o).heap.size) :
    PaI (K + 1) KM xs base w1 lv' (L ++ [g1]) mv M := by
  have hsz : (w.alloc o).heap.size = w.heap.size + 1 := World.size_alloc _ _
  have hE : L.length = K := by have := h.hl.1; omega
  have stay : ∀ {e n : Nat} {v : Value} {xs : List Value}, w.ownsRow base e 1 v n xs → (∀ b, v.ownBlock = some b → lv.ownBlock ≠ some b) → w1.ownsRow base e 1 v n xs := fun hv hn => owns_stay (hv.alloc _) hg hn
  have new : ∀ b, b < w.heap.size → lv.ownBlock ≠ some b → lv'.ownBlock ≠ some b := fun b hb hn e => by
    rcases hat with h2 | h2
    · exact hn (h2 ▸ e)
    · rw [h2, hsz] at e; injection e with e; omega
  have new2 : ∀ b, lv'.ownBlock = some b → lv.ownBlock = some b ∨ b = w.heap.size + 1 := fun b hb => by
    rcases hat with h2 | h2
    · exact .inl (h2 ▸ hb)
    · rw [h2, hsz] at hb; injection hb with hb; exact .inr hb.symm
  have rowE : ∀ e, e < K + 1 → w.ownsRow base 3 1 (gAt (L ++ [g1]) e) (xs e).length ((xs e).map (Value.int .i64)) ∧ (∀ b, (gAt (L ++ [g1]) e).ownBlock = some b → lv.ownBlock ≠ some b ∧ mv.ownBlock ≠ some b) := by
    intro e he
    rcases (by omega : e < K ∨ e = L.length) with h1 | h1
    · rw [gAt_append_lt (by omega)]
      exact ⟨h.rows e h1, fun b hb => ⟨(h.ap e h1 b hb).1, h.rm e h1 b hb⟩⟩
    · subst h1; rw [gAt_append_eq, hE]; exact ⟨r1, fun b hb => ⟨(d1 b hb).1, (d1 b hb).2.1⟩⟩
  refine ⟨ho, stay h.hm (fun b hb e => h.lm b e hb), fun e he => stay (rowE e he).1 (fun b hb => ((rowE e he).2 b hb).1), fun e he => ?_, fun i hi b hb => ⟨new b ((rowE i hi).1.lt b hb).2 ((rowE i hi).2 b hb).1, fun j hj hji e => ?_⟩, fun b hb e => ?_, fun e he b hb => ((rowE e he).2 b hb).2⟩
  · obtain ⟨A, c, h1, h2, h3⟩ := h.ints e he
    refine ⟨A, c, h1, intsAt_stay (w := w.alloc o) (h2.fr ((Fr.refl (fun _ => False) w).alloc o) (fun _ _ h => h)) hg (fun a ha => (h3 a ha).2.1), fun a ha => ?_⟩
    obtain ⟨k1, k2, k3⟩ := h3 a ha
    exact ⟨Nat.lt_of_lt_of_le (by omega) hg.size, new _ k1 k2, k3⟩
  · rcases (by omega : i < K ∨ i = L.length) with h1 | h1
    · rw [gAt_append_lt (by omega)] at hb
      rcases (by omega : j < K ∨ j = L.length) with h2 | h2
      · rw [gAt_append_lt (by omega)] at e; exact (h.ap i h1 b hb).2 j h2 hji e
      · subst h2; rw [gAt_append_eq] at e; exact (d1 b e).2.2 i h1 hb
    · subst h1
      rw [gAt_append_eq] at hb
      rw [gAt_append_lt (by omega)] at e; exact (d1 b hb).2.2 j (by omega) e
  · rcases new2 b hb with h2 | h2
    · exact h.lm b h2 e
    · have := (h.hm.lt b e).2; omega

/-- and one among those that it must be. -/
theorem PaI.oneM {w1 : World} {o : Obj} {mv' : Value} {A1 : Option Addr} {c1 : Nat} (h : PaI K KM xs base w lv L mv M)
    (r1 : IntsAt w A1 (xs KM))
    (d1 : ∀ a, A1 = some a → a.block < w.heap.size ∧ lv.ownBlock ≠ some a.block ∧ mv.ownBlock ≠ some a.block)
    (ho : w1.ownsRow base 22 1 mv' (KM + 1) (M ++ [.slice A1 (xs KM).length c1])) (hg : (w.alloc o).grownBy w1 mv.ownBlock) (hat : mv'.ownBlock = mv.ownBlock ∨ mv'.ownBlock = some (w.alloc o).heap.size) :
    PaI K (KM + 1) xs base w1 lv L mv' (M ++ [.slice A1 (xs KM).length c1]) := by
  have hsz : (w.alloc o).heap.size = w.heap.size + 1 := World.size_alloc _ _
  have hE : M.length = KM := by have := h.hm.1; omega
  have stay : ∀ {e n : Nat} {v : Value} {xs : List Value}, w.ownsRow base e 1 v n xs → (∀ b, v.ownBlock = some b → mv.ownBlock ≠ some b) → w1.ownsRow base e 1 v n xs := fun hv hn => owns_stay (hv.alloc _) hg hn
  have new : ∀ b, b < w.heap.size → mv.ownBlock ≠ some b → mv'.ownBlock ≠ some b := fun b hb hn e => by
    rcases hat with h2 | h2
    · exact hn (h2 ▸ e)
    · rw [h2, hsz] at e; injection e with e; omega
  have key : ∀ (A : Option Addr) (ys : List Int), IntsAt w A ys → (∀ a, A = some a → a.block < w.heap.size ∧ lv.ownBlock ≠ some a.block ∧ mv.ownBlock ≠ some a.block) →
      IntsAt w1 A ys ∧ ∀ a, A = some a → a.block < w1.heap.size ∧ lv.ownBlock ≠ some a.block ∧ mv'.ownBlock ≠ some a.block := fun A ys hi hd =>
    ⟨intsAt_stay (w := w.alloc o) (hi.fr ((Fr.refl (fun _ => False) w).alloc o) (fun _ _ h => h)) hg (fun a ha => (hd a ha).2.2), fun a ha => ⟨Nat.lt_of_lt_of_le (by have := (hd a ha).1; omega) hg.size, (hd a ha).2.1, new _ (hd a ha).1 (hd a ha).2.2⟩⟩
  refine ⟨stay h.hl h.lm, ho, fun e he => stay (h.rows e he) (h.rm e he), fun e he => ?_, h.ap, fun b hb => new b (h.hl.lt b hb).2 (h.lm b hb), fun e he b hb => new b ((h.rows e he).lt b hb).2 (h.rm e he b hb)⟩
  rcases (by omega : e < KM ∨ e = M.length) with h1 | h1
  · obtain ⟨A, c, h2, h3, h4⟩ := h.ints e h1
    exact ⟨A, c, by rw [gAt_append_lt (by omega)]; exact h2, key A _ h3 h4⟩
  · subst h1; rw [gAt_append_eq, hE]; exact ⟨A1, c1, rfl, key A1 _ r1 d1⟩
end

theorem callWeighs_c (c : CallM) (w : World) : Calls Tryz.prog 27 #[.agg #[.int .i64 c.xid, .int .i64 c.rpc, .int .i64 c.prog, .int .i64 c.vers, .int .i64 c.proc, .int .i64 c.cred.flavor, .string c.cred.body, .int .i64 c.verf.flavor, .string c.verf.body, .string c.args]] w fun r w' => r = .returned (.int .i64 (callWeighsM c)) ∧ Fr (fun _ => False) w w' := callWeighs_any c w
theorem kkS {w w' : World} {x y : CallM} {t0 t1 : Nat} (h0 : Hid (w'.heap[w.heap.size]? = some (.cells #[.int .i64 x.xid, .int .i64 x.rpc, .int .i64 x.prog, .int .i64 x.vers, .int .i64 x.proc, .int .i64 x.cred.flavor, .string x.cred.body, .int .i64 x.verf.flavor, .string x.verf.body, .string x.args] t0 (0, 0)))) (h1 : Hid (w'.heap[w.heap.size + 1]? = some (.cells #[.int .i64 y.xid, .int .i64 y.rpc, .int .i64 y.prog, .int .i64 y.vers, .int .i64 y.proc, .int .i64 y.cred.flavor, .string y.cred.body, .int .i64 y.verf.flavor, .string y.verf.body, .string y.args] t1 (0, 0)))) :
    w'.cell? ⟨w.heap.size, 0, none⟩ = some (.int .i64 x.xid) ∧ w'.cell? ⟨w.heap.size, 1, none⟩ = some (.int .i64 x.rpc) ∧ w'.cell? ⟨w.heap.size, 2, none⟩ = some (.int .i64 x.prog) ∧ w'.cell? ⟨w.heap.size, 3, none⟩ = some (.int .i64 x.vers) ∧ w'.cell? ⟨w.heap.size, 4, none⟩ = some (.int .i64 x.proc) ∧ w'.cell? ⟨w.heap.size, 5, none⟩ = some (.int .i64 x.cred.flavor) ∧ w'.cell? ⟨w.heap.size, 6, none⟩ = some (.string x.cred.body) ∧ w'.cell? ⟨w.heap.size, 7, none⟩ = some (.int .i64 x.verf.flavor) ∧ w'.cell? ⟨w.heap.size, 8, none⟩ = some (.string x.verf.body) ∧ w'.cell? ⟨w.heap.size, 9, none⟩ = some (.string x.args) ∧ w'.cell? ⟨w.heap.size + 1, 0, none⟩ = some (.int .i64 y.xid) ∧ w'.cell? ⟨w.heap.size + 1, 1, none⟩ = some (.int .i64 y.rpc) ∧ w'.cell? ⟨w.heap.size + 1, 2, none⟩ = some (.int .i64 y.prog) ∧ w'.cell? ⟨w.heap.size + 1, 3, none⟩ = some (.int .i64 y.vers) ∧ w'.cell? ⟨w.heap.size + 1, 4, none⟩ = some (.int .i64 y.proc) ∧ w'.cell? ⟨w.heap.size + 1, 5, none⟩ = some (.int .i64 y.cred.flavor) ∧ w'.cell? ⟨w.heap.size + 1, 6, none⟩ = some (.string y.cred.body) ∧ w'.cell? ⟨w.heap.size + 1, 7, none⟩ = some (.int .i64 y.verf.flavor) ∧ w'.cell? ⟨w.heap.size + 1, 8, none⟩ = some (.string y.verf.body) ∧ w'.cell? ⟨w.heap.size + 1, 9, none⟩ = some (.string y.args) := by
  obtain ⟨a0, a1, a2, a3, a4, a5, a6, a7, a8, a9⟩ := box10 h0
  obtain ⟨b0, b1, b2, b3, b4, b5, b6, b7, b8, b9⟩ := box10 h1
  exact ⟨a0, a1, a2, a3, a4, a5, a6, a7, a8, a9, b0, b1, b2, b3, b4, b5, b6, b7, b8, b9⟩

set_option maxRecDepth 100000 in
set_option maxHeartbeats 8000000 in
theorem CredJudges_any (x y : CallM) (w : World) (hg : ErrT w) :
    Calls Tryz.prog 5 #[.agg (callCells x), .agg (callCells y)] w fun r w' => r = .returned (.bool true) ∧ Fr (fun _ => False) w w' := by
  have hx1 := Lib.hid (heap_two (w := w) (a := .cells (callCells x) 50) (b := .cells (callCells y) 50))
  have hx0 := Lib.hid (heap_old (o := .cells (callCells y) 50) (heap_alloc_new w (.cells (callCells x) 50)))
  have hb3 := Lib.hid (((Fr.refl (fun _ => False) w).alloc (.cells (callCells x) 50)).alloc (.cells (callCells y) 50))
  have hlt : 1 ≤ ((w.alloc (.cells (callCells x) 50)).alloc (.cells (callCells y) 50)).heap.size - w.heap.size := by simp; omega
  have HG := Lib.hid hg
  clear hg
  unfold callCells at *
  go_enter Tryz.func5, Tryz.ntmps5
  go_upto_region 1 with fail
  generalize (w.alloc _).alloc _ = v0 at *
  have HWn : Hid (0 ≤ callWeighsM x ∧ 0 ≤ callWeighsM y) := Lib.hid ⟨addsM_nonneg (addsM_nonneg (by omega) (by omega)) (by omega), addsM_nonneg (addsM_nonneg (by omega) (by omega)) (by omega)⟩
  have hfw : Fr (fun _ => False) v0 v0 := Fr.refl _ _
  go_cut [23] from 18 (fun b wx => b = .bool (decide (2147483647 < addsM (callWeighsM x) (callWeighsM y))) ∧ Fr (fun _ => False) v0 wx)
  case first => as_aux_lemma =>
    go_region_held3 (fun w' => w'.cell? ⟨w.heap.size, 0, none⟩ = some (.int .i64 x.xid) ∧ w'.cell? ⟨w.heap.size, 1, none⟩ = some (.int .i64 x.rpc) ∧ w'.cell? ⟨w.heap.size, 2, none⟩ = some (.int .i64 x.prog) ∧ w'.cell? ⟨w.heap.size, 3, none⟩ = some (.int .i64 x.vers) ∧ w'.cell? ⟨w.heap.size, 4, none⟩ = some (.int .i64 x.proc) ∧ w'.cell? ⟨w.heap.size, 5, none⟩ = some (.int .i64 x.cred.flavor) ∧ w'.cell? ⟨w.heap.size, 6, none⟩ = some (.string x.cred.body) ∧ w'.cell? ⟨w.heap.size, 7, none⟩ = some (.int .i64 x.verf.flavor) ∧ w'.cell? ⟨w.heap.size, 8, none⟩ = some (.string x.verf.body) ∧ w'.cell? ⟨w.heap.size, 9, none⟩ = some (.string x.args) ∧ w'.cell? ⟨w.heap.size + 1, 0, none⟩ = some (.int .i64 y.xid) ∧ w'.cell? ⟨w.heap.size + 1, 1, none⟩ = some (.int .i64 y.rpc) ∧ w'.cell? ⟨w.heap.size + 1, 2, none⟩ = some (.int .i64 y.prog) ∧ w'.cell? ⟨w.heap.size + 1, 3, none⟩ = some (.int .i64 y.vers) ∧ w'.cell? ⟨w.heap.size + 1, 4, none⟩ = some (.int .i64 y.proc) ∧ w'.cell? ⟨w.heap.size + 1, 5, none⟩ = some (.int .i64 y.cred.flavor) ∧ w'.cell? ⟨w.heap.size + 1, 6, none⟩ = some (.string y.cred.body) ∧ w'.cell? ⟨w.heap.size + 1, 7, none⟩ = some (.int .i64 y.verf.flavor) ∧ w'.cell? ⟨w.heap.size + 1, 8, none⟩ = some (.string y.verf.body) ∧ w'.cell? ⟨w.heap.size + 1, 9, none⟩ = some (.string y.args)) (first | exact kkS hx0 hx1) (first
      | (go_at_call 27; refine (callWeighs_c _ _).mono ?_; rintro e w4 ⟨rfl, hf4⟩; (try have hf4 := Fr.ofDrew hf4); have hx0 := hidMove hx0 hf4 id; have hx1 := hidMove hx1 hf4 id; have hfw := hfw.then hf4 (fun _ _ h => h))
      | (go_at_call 11; refine (addsUp_same _ _ _ HWn.out.1 HWn.out.2).mono ?_; rintro e w4 ⟨rfl, rfl⟩))
    go_wp2_with fail
    go_meet
    case rel => exact ⟨rfl, hfw⟩
  case rest =>
  obtain ⟨rfl, hfc⟩ := hcut
  clear hfw HWn hlt
  have hfw := Lib.hid (hb3.out.then hfc (fun _ _ h => h))
  replace hx0 := hidMove hx0 hfc id
  replace hx1 := hidMove hx1 hfc id
  clear hfc hb3
  by_cases hW : 2147483647 < addsM (callWeighsM x) (callWeighsM y)
  · rw [decide_eq_true hW]
    go_wp2
    go_ret
    exact ⟨rfl, hfw.out⟩
  rw [decide_eq_false hW]
  have HS := Lib.hid (callWeigh_small hW)
  clear hW
  go_wp2_with fail
  refine (awake_any _ (HG.out.fr hfw.out id)).mono ?_
  rintro e w3 ⟨rfl, hf3⟩
  replace hx0 := hidMove hx0 hf3 id
  replace hx1 := hidMove hx1 hf3 id
  replace hfw := Lib.hid (hfw.out.then hf3 (fun _ _ h => h))
  obtain ⟨a0, a1, a2, a3, a4, a5, a6, a7, a8, a9⟩ := box10 hx0
  obtain ⟨b0, b1, b2, b3, b4, b5, b6, b7, b8, b9⟩ := box10 hx1
  have hl0 : w.heap.size < w3.heap.size := lt_of_block hx0.out
  have hl1 : w.heap.size + 1 < w3.heap.size := lt_of_block hx1.out
  clear hf3
  have hak := Lib.hid (show AskedC (w3.alloc (Obj.cells #[.int .i64 x.xid, .int .i64 x.rpc, .int .i64 x.prog, .int .i64 x.vers, .int .i64 x.proc, .int .i64 x.cred.flavor, .string x.cred.body, .int .i64 x.verf.flavor, .string x.verf.body, .string x.args, .int .i64 x.xid, .int .i64 x.rpc, .int .i64 x.prog, .int .i64 x.vers, .int .i64 x.proc, .int .i64 x.cred.flavor, .string x.cred.body, .int .i64 x.verf.flavor, .string x.verf.body, .string x.args, .int .i64 y.xid, .int .i64 y.rpc, .int .i64 y.prog, .int .i64 y.vers, .int .i64 y.proc, .int .i64 y.cred.flavor, .string y.cred.body, .int .i64 y.verf.flavor, .string y.verf.body, .string y.args, .int .i64 x.xid, .int .i64 x.rpc, .int .i64 x.prog, .int .i64 x.vers, .int .i64 x.proc, .int .i64 x.cred.flavor, .string x.cred.body, .int .i64 x.verf.flavor, .string x.verf.body, .string x.args] 50 (0, 0))) w3.heap.size x y from heap_alloc_new w3 _)
  have HF : Hid (Fr (fun k => w.heap.size ≤ k) w (w3.alloc (Obj.cells #[.int .i64 x.xid, .int .i64 x.rpc, .int .i64 x.prog, .int .i64 x.vers, .int .i64 x.proc, .int .i64 x.cred.flavor, .string x.cred.body, .int .i64 x.verf.flavor, .string x.verf.body, .string x.args, .int .i64 x.xid, .int .i64 x.rpc, .int .i64 x.prog, .int .i64 x.vers, .int .i64 x.proc, .int .i64 x.cred.flavor, .string x.cred.body, .int .i64 x.verf.flavor, .string x.verf.body, .string x.args, .int .i64 y.xid, .int .i64 y.rpc, .int .i64 y.prog, .int .i64 y.vers, .int .i64 y.proc, .int .i64 y.cred.flavor, .string y.cred.body, .int .i64 y.verf.flavor, .string y.verf.body, .string y.args, .int .i64 x.xid, .int .i64 x.rpc, .int .i64 x.prog, .int .i64 x.vers, .int .i64 x.proc, .int .i64 x.cred.flavor, .string x.cred.body, .int .i64 x.verf.flavor, .string x.verf.body, .string x.args] 50 (0, 0)))) := Lib.hid ((hfw.out.alloc _).mono (fun _ _ h => h.elim))
  have HG4 := Lib.hid (HG.out.fr (hfw.out.alloc (Obj.cells #[.int .i64 x.xid, .int .i64 x.rpc, .int .i64 x.prog, .int .i64 x.vers, .int .i64 x.proc, .int .i64 x.cred.flavor, .string x.cred.body, .int .i64 x.verf.flavor, .string x.verf.body, .string x.args, .int .i64 x.xid, .int .i64 x.rpc, .int .i64 x.prog, .int .i64 x.vers, .int .i64 x.proc, .int .i64 x.cred.flavor, .string x.cred.body, .int .i64 x.verf.flavor, .string x.verf.body, .string x.args, .int .i64 y.xid, .int .i64 y.rpc, .int .i64 y.prog, .int .i64 y.vers, .int .i64 y.proc, .int .i64 y.cred.flavor, .string y.cred.body, .int .i64 y.verf.flavor, .string y.verf.body, .string y.args, .int .i64 x.xid, .int .i64 x.rpc, .int .i64 x.prog, .int .i64 x.vers, .int .i64 x.proc, .int .i64 x.cred.flavor, .string x.cred.body, .int .i64 x.verf.flavor, .string x.verf.body, .string x.args] 50 (0, 0))) id)
  have HP := Lib.hid (PaI.start (judgedL x y) w.heap.size (w3.alloc (Obj.cells #[.int .i64 x.xid, .int .i64 x.rpc, .int .i64 x.prog, .int .i64 x.vers, .int .i64 x.proc, .int .i64 x.cred.flavor, .string x.cred.body, .int .i64 x.verf.flavor, .string x.verf.body, .string x.args, .int .i64 x.xid, .int .i64 x.rpc, .int .i64 x.prog, .int .i64 x.vers, .int .i64 x.proc, .int .i64 x.cred.flavor, .string x.cred.body, .int .i64 x.verf.flavor, .string x.verf.body, .string x.args, .int .i64 y.xid, .int .i64 y.rpc, .int .i64 y.prog, .int .i64 y.vers, .int .i64 y.proc, .int .i64 y.cred.flavor, .string y.cred.body, .int .i64 y.verf.flavor, .string y.verf.body, .string y.args, .int .i64 x.xid, .int .i64 x.rpc, .int .i64 x.prog, .int .i64 x.vers, .int .i64 x.proc, .int .i64 x.cred.flavor, .string x.cred.body, .int .i64 x.verf.flavor, .string x.verf.body, .string x.args] 50 (0, 0))))
  obtain ⟨i1, hi1, hza, hzb, hzc⟩ := info_parts Tryz.infoInts
  go_wp2_with fail
  clear a0 a1 a2 a3 a4 a5 a6 a7 a8 a9 b0 b1 b2 b3 b4 b5 b6 b7 b8 b9 hl0 hl1 hx0 hx1
  go_loopw [7, 8, 9] (fun lv mv q wr => ∃ k : Nat, k ≤ 4 ∧ q = .int .i64 k ∧ Hid (Fr (fun k => w.heap.size ≤ k) w wr) ∧ Hid (AskedC wr w3.heap.size x y) ∧ Hid (ErrT wr) ∧ Hid (∃ L M, PaI k k (judgedL x y) w.heap.size wr lv L mv M ∧ lv.ownBlock ≠ some w3.heap.size ∧ mv.ownBlock ≠ some w3.heap.size)) (fun _ _ q _ => 4 - (intOf q).toNat)
  case atStart => exact ⟨0, by omega, rfl, HF, hak, HG4, Lib.hid ⟨_, _, HP.out, by simp [Value.ownBlock], by simp [Value.ownBlock]⟩⟩
  case round =>
    clear HF hak HG4 HP
    obtain ⟨k, hk, rfl, HF, HK, HE, HP⟩ := hrel
    by_cases hlt : k < 4
    · obtain ⟨k0, k1, k2, k3, k4, k5, k6, k7, k8, k9⟩ := HK.out.cell hlt
      have hl3 : w3.heap.size < wr.heap.size := lt_of_block HK.out
      have hz : (askedC x y k).cred.body.size ≤ 1099511627776 := by unfold askedC; have := HS.out; split <;> omega
      have HZ := Lib.hid hz
      clear hz
      obtain ⟨T, bT, eT, hT⟩ : ∃ S b e, judgeM (askedC x y k) = (S, b, e) := ⟨_, _, _, rfl⟩
      have HTM := Lib.hid hT
      have HX : Hid (judgedL x y k = T.sys.groups) := Lib.hid (by unfold judgedL; rw [hT])
      have HSmall := Lib.hid (show T.sys.groups.length ≤ 16 by have := judgedL_small x y k; rw [HX.out] at this; exact this)
      clear hT
      go_wp2_with fail
      refine (Judge_own HTM.out _ HE.out HZ.out).mono ?_
      rintro e v1 ⟨hf1, A1, c1, rfl, hO1⟩
      have hA1 := Lib.hid ((fun a ha => (by have := hO1.at_ a ha; simpa using this : wr.heap.size ≤ a.block ∧ a.block < v1.heap.size)) : ∀ a, A1 = some a → wr.heap.size ≤ a.block ∧ a.block < v1.heap.size)
      clear k0 k1 k2 k3 k4 k5 k6 k7 k8 k9 hl3
      have hr := Lib.hid (hf1.alloc (Obj.cells #[.int .i64 T.inst, .int .i64 T.seq, .int .i64 T.water, .int .i64 T.sys.stamp, .string T.sys.machine, .int .i64 T.sys.user, .int .i64 T.sys.group, .slice A1 T.sys.groups.length c1] 26 (0, 0)))
      have z1 : wr.heap.size ≤ v1.heap.size := hf1.size
      replace hO1 := Lib.hid (hO1.fr ((Fr.refl _ _).alloc (Obj.cells #[.int .i64 T.inst, .int .i64 T.seq, .int .i64 T.water, .int .i64 T.sys.stamp, .string T.sys.machine, .int .i64 T.sys.user, .int .i64 T.sys.group, .slice A1 T.sys.groups.length c1] 26 (0, 0))))
      have hb1 := Lib.hid (heap_alloc_new v1 (Obj.cells #[.int .i64 T.inst, .int .i64 T.seq, .int .i64 T.water, .int .i64 T.sys.stamp, .string T.sys.machine, .int .i64 T.sys.user, .int .i64 T.sys.group, .slice A1 T.sys.groups.length c1] 26 (0, 0)))
      clear hf1
      obtain ⟨k0, k1, k2, k3, k4, k5, k6, k7, k8, k9⟩ := (show AskedC _ w3.heap.size x y from HK.out.fr' hr.out).cell hlt
      have hl3 : w3.heap.size < v1.heap.size + 1 := by have := lt_of_block (show _ = _ from HK.out.fr' hr.out); simpa using this
      go_wp2_with fail
      refine (rJudge_own HTM.out _ HZ.out).mono ?_
      rintro e v2 ⟨hf2, A2, c2, rfl, hO2⟩
      have hA2 := Lib.hid ((fun a ha => (by have := hO2.at_ a ha; simpa using this : v1.heap.size + 1 ≤ a.block ∧ a.block < v2.heap.size)) : ∀ a, A2 = some a → v1.heap.size + 1 ≤ a.block ∧ a.block < v2.heap.size)
      clear k0 k1 k2 k3 k4 k5 k6 k7 k8 k9 hl3
      replace hr := Lib.hid ((hr.out.trans hf2).alloc (Obj.cells #[.int .i64 T.inst, .int .i64 T.seq, .int .i64 T.water, .int .i64 T.sys.stamp, .string T.sys.machine, .int .i64 T.sys.user, .int .i64 T.sys.group, .slice A2 T.sys.groups.length c2] 26 (0, 0)))
      have z2 : v1.heap.size + 1 ≤ v2.heap.size := by have := hf2.size; simpa using this
      replace hO1 := Lib.hid ((hO1.out.fr hf2).fr ((Fr.refl _ _).alloc (Obj.cells #[.int .i64 T.inst, .int .i64 T.seq, .int .i64 T.water, .int .i64 T.sys.stamp, .string T.sys.machine, .int .i64 T.sys.user, .int .i64 T.sys.group, .slice A2 T.sys.groups.length c2] 26 (0, 0))))
      replace hb1 := Lib.hid (heap_old (o := (Obj.cells #[.int .i64 T.inst, .int .i64 T.seq, .int .i64 T.water, .int .i64 T.sys.stamp, .string T.sys.machine, .int .i64 T.sys.user, .int .i64 T.sys.group, .slice A2 T.sys.groups.length c2] 26 (0, 0))) (hidMove hb1 hf2 id).out)
      replace hO2 := Lib.hid (hO2.fr ((Fr.refl _ _).alloc (Obj.cells #[.int .i64 T.inst, .int .i64 T.seq, .int .i64 T.water, .int .i64 T.sys.stamp, .string T.sys.machine, .int .i64 T.sys.user, .int .i64 T.sys.group, .slice A2 T.sys.groups.length c2] 26 (0, 0))))
      have hb2 := Lib.hid (heap_alloc_new v2 (Obj.cells #[.int .i64 T.inst, .int .i64 T.seq, .int .i64 T.water, .int .i64 T.sys.stamp, .string T.sys.machine, .int .i64 T.sys.user, .int .i64 T.sys.group, .slice A2 T.sys.groups.length c2] 26 (0, 0)))
      clear hf2
      obtain ⟨s0, s1, s2, s3, s4, s5, s6, s7⟩ := box8 hb1
      obtain ⟨t0, t1, t2, t3, t4, t5, t6, t7⟩ := box8 hb2
      have hl1 : v1.heap.size < v2.heap.size + 1 := by have := lt_of_block hb1.out; simpa using this
      go_wp2_with fail
      refine (marks_same T A1 A2 c1 c2 _ hO1.out.ints hO2.out.ints (by have := HSmall.out; omega)).mono ?_
      rintro e v6 ⟨rfl, hf6⟩
      clear s0 s1 s2 s3 s4 s5 s6 s7 t0 t1 t2 t3 t4 t5 t6 t7 hl1
      replace hr := Lib.hid (hr.out.trans hf6)
      have z6 : v2.heap.size + 1 ≤ v6.heap.size := by have := hf6.size; simpa using this
      replace hO1 := Lib.hid (hO1.out.fr hf6)
      replace hO2 := Lib.hid (hO2.out.fr hf6)
      replace hb1 := hidMove hb1 hf6 id
      replace hb2 := hidMove hb2 hf6 id
      clear hf6
      obtain ⟨L, M, hp, hpl, hpm⟩ := HP.out
      have HPP := Lib.hid (hp.fr hr.out)
      have HPB := Lib.hid (show u7.ownBlock ≠ some w3.heap.size ∧ u8.ownBlock ≠ some w3.heap.size from ⟨hpl, hpm⟩)
      have HLT := Lib.hid (show (∀ b, u7.ownBlock = some b → b < wr.heap.size) ∧ (∀ b, u8.ownBlock = some b → b < wr.heap.size) ∧ (∀ e, e < k → ∀ b, (gAt L e).ownBlock = some b → b < wr.heap.size) from ⟨fun b h => (hp.hl.lt b h).2, fun b h => (hp.hm.lt b h).2, fun e he b h => ((hp.rows e he).lt b h).2⟩)
      clear hp hpl hpm HP
      obtain ⟨-, -, -, -, -, -, -, s7⟩ := box8 hb1
      have hl1 : v1.heap.size < v6.heap.size := lt_of_block hb1.out
      go_wp2_with (with_reducible refine wpList_append_ap rfl (.tmp 69) (.tmp 73) 40 rfl w.heap.size 22 i1 (.slice none 0 0) 24 Tryz.underlying40 hi1 hza hzb hzc rfl u7 k L rfl (HPP.out.hl.alloc _) ⟨v6.heap.size, 0, none⟩ 1 1 [.slice A1 T.sys.groups.length c1] rfl rfl (cell_one_new _ _ _) ?c1 (by decide) ?c2 ?c3 ?c4 ?_)
      case c1 => intro u hu; rw [List.mem_singleton.1 hu]; rfl
      case c2 => unfold maxLen; omega
      case c3 => omega
      case c4 => rw [World.size_alloc]; have := HF.out.size; omega
      intro u7' v7 hown hgrow hat
      have hD : ∀ b, (Value.slice A1 T.sys.groups.length c1).ownBlock = some b → u7.ownBlock ≠ some b ∧ u8.ownBlock ≠ some b ∧ (∀ e, e < k → (gAt L e).ownBlock ≠ some b) := fun b hb => by
        obtain ⟨a, ha, rfl⟩ := own_slice hb
        have q := hA1.out a ha
        exact ⟨fun e => by have := HLT.out.1 _ e; omega, fun e => by have := HLT.out.2.1 _ e; omega, fun i hi e => by have := HLT.out.2.2 i hi _ e; omega⟩
      have hN := HPP.out.oneL (w1 := v7) (by rw [HX.out]; exact hO1.out.low HF.out.size) hD hown hgrow (hat.imp id (fun h => by rw [World.size_alloc]; exact h.1))
      replace HF : Hid (Fr (fun k => w.heap.size ≤ k) w v7) := Lib.hid (((HF.out.then hr.out (fun _ _ h => h.elim)).alloc _).grown hgrow (fun b hb => .inl (HPP.out.hl.lt b hb).1))
      have hz7 : v6.heap.size + 1 ≤ v7.heap.size := by have := hgrow.size; simpa using this
      have hn7 : ∀ b, u7'.ownBlock = some b → (b < wr.heap.size ∧ b ≠ w3.heap.size) ∨ b = v6.heap.size + 1 := fun b hb => by
        rcases hat with h | h
        · exact .inl ⟨HLT.out.1 b (h ▸ hb), fun e => HPB.out.1 (e ▸ h ▸ hb)⟩
        · rw [h.1] at hb; injection hb with hb; exact .inr hb.symm
      have hAK : AskedC v7 w3.heap.size x y := grown_block hgrow (heap_old (show _ = _ from HK.out.fr' hr.out)) (fun e => HPB.out.1 e)
      replace hb2 := Lib.hid (grown_block hgrow (heap_old hb2.out) (fun e => by have := HLT.out.1 _ e; omega))
      replace hO2 : Hid (IntsAt v7 A2 T.sys.groups) := Lib.hid (intsAt_stay (hO2.out.fr ((Fr.refl _ _).alloc _)).ints hgrow (fun a ha e => by have := HLT.out.1 _ e; have := hA2.out a ha; omega))
      have hw3 : w3.heap.size < wr.heap.size := lt_of_block (show _ = _ from HK.out)
      have HK7 := Lib.hid hAK
      have HP7 := Lib.hid hN
      have HN7 := Lib.hid hn7
      clear hAK hN hn7 hown hgrow hat hD hb1 hO1 HPP s7 hl1
      obtain ⟨-, -, -, -, -, -, -, s7⟩ := box8 hb2
      have hl1 : v2.heap.size < v7.heap.size := lt_of_block hb2.out
      go_wp2_with (with_reducible refine wpList_append_ap rfl (.tmp 75) (.tmp 79) 40 rfl w.heap.size 22 i1 (.slice none 0 0) 24 Tryz.underlying40 hi1 hza hzb hzc rfl u8 k M rfl (HP7.out.hm.alloc _) ⟨v7.heap.size, 0, none⟩ 1 1 [.slice A2 T.sys.groups.length c2] rfl rfl (cell_one_new _ _ _) ?c1 (by decide) ?c2 ?c3 ?c4 ?_)
      case c1 => intro u hu; rw [List.mem_singleton.1 hu]; rfl
      case c2 => unfold maxLen; omega
      case c3 => omega
      case c4 => rw [World.size_alloc]; have := HF.out.size; omega
      intro u8' v8 hown hgrow hat
      have hN := HP7.out.oneM (w1 := v8) (A1 := A2) (c1 := c2) (by rw [HX.out]; exact hO2.out)
        (fun a ha => by have k1 := hA2.out a ha; exact ⟨by omega, fun e => by have := HN7.out _ e; omega, fun e => by have := HLT.out.2.1 _ e; omega⟩)
        (by rw [HX.out]; exact hown) hgrow (hat.imp id (fun h => by rw [World.size_alloc]; exact h.1))
      have HF8 : Hid (Fr (fun k => w.heap.size ≤ k) w v8) := Lib.hid ((HF.out.alloc _).grown hgrow (fun b hb => .inl (HP7.out.hm.lt b hb).1))
      have HK8 : Hid (AskedC v8 w3.heap.size x y) := Lib.hid (grown_block hgrow (heap_old (show _ = _ from HK7.out)) (fun e => HPB.out.2 e))
      have hn8 : u7'.ownBlock ≠ some w3.heap.size ∧ u8'.ownBlock ≠ some w3.heap.size := ⟨fun e => by have := HN7.out _ e; omega, fun e => by
        rcases hat with h | h
        · exact HPB.out.2 (h ▸ e)
        · rw [h.1] at e; injection e with e; omega⟩
      have HP8 := Lib.hid (⟨_, _, hN, hn8.1, hn8.2⟩ : ∃ L M, PaI (k + 1) (k + 1) (judgedL x y) w.heap.size v8 u7' L u8' M ∧ u7'.ownBlock ≠ some w3.heap.size ∧ u8'.ownBlock ≠ some w3.heap.size)
      have HG8 := Lib.hid (HG.out.fr HF8.out (by have := HG.out.lt; omega))
      clear hn8 hN hown hgrow hat HF HK7 HP7 hO2 hb2 hA1 hA2 s7 hl1
      go_wp2
      exact ⟨⟨k + 1, by omega, by go_num, HF8, HK8, HG8, HP8⟩, by simp [intOf]; omega⟩
    · have hk4 : k = 4 := by omega
      subst hk4
      clear hlt
      obtain ⟨L, M, hp, -, -⟩ := HP.out
      obtain ⟨bl, lc, rfl, -⟩ := owns_some hp.hl (by decide)
      obtain ⟨bw, wc, rfl, -⟩ := owns_some hp.hm (by decide)
      have HA := Lib.hid (apart_any 4 (judgedL x y) L M bl lc bw wc w.heap.size wr hp.hl hp.hm hp.rows (fun j hj => by obtain ⟨A, c, h1, h2, _⟩ := hp.ints j hj; exact ⟨A, c, h1, h2⟩) hp.ap (by decide) (fun j => by have := judgedL_small x y j; omega))
      clear hp HP HK HE
      go_wp2_with fail
      refine HA.out.mono ?_
      rintro e v ⟨rfl, hf⟩
      go_wp2
      go_ret
      exact ⟨rfl, (HF.out.trans hf).mono (fun k h1 h2 => by omega)⟩
end Go.Proofs.YtcooijhndiainaaGreatDoor
