/- A client: the request of a call that waits. -/
import Derived.Test.YtbegjpmifcnieaaGreatDoorEg
import Derived.Test.YtbegjpmifcnieaaGreatDoorCp
import Derived.Test.YtbegjpmifcnieaaGreatDoorMc
import Derived.Laws.Rows
import Derived.BigRegion
import Derived.Deep.RegionHeld3
import Derived.Maps.AppendAt
namespace Go.Proofs.YtbegjpmifcnieaaGreatDoor
open Go.RowKit
set_option linter.unusedVariables false
set_option linter.unusedSimpArgs false

def cmarkOf (S : CliS) (r : CallR) (water : Int) : MarkM := ⟨S.cfg.inst, r.seq, water, S.cfg.sys⟩
def requestM (S : CliS) (r : CallR) (water : Int) : ByteArray :=
  (printCallM ⟨r.seq, 2, r.prog, r.vers, r.proc, ⟨(printMarkM (cmarkOf S r water)).1, (printMarkM (cmarkOf S r water)).2.1⟩, ⟨0, ByteArray.empty⟩, r.args⟩).1

theorem printMark_size (m : MarkM) : (printMarkM m).2.1.size ≤ 140737488351232 := by
  unfold printMarkM
  split
  · have h := (((((newW_ok (m := 1024) (by decide) (by decide)).hyper m.inst).hyper m.seq).hyper m.water).sys m.sys).size
    show (WSt.body _).size ≤ _
    unfold WSt.body
    split
    · omega
    · exact Nat.zero_le _
  · exact Nat.zero_le _

set_option maxRecDepth 100000 in
set_option maxHeartbeats 4000000 in
theorem request_any {w : World} {b : Nat} {S : CliS} (h : Cli w b S) (hg : ErrT w) (r : CallR) (hr : CallAt w b r) (water : Int) (hm : S.cfg.sys.machine.size ≤ 140737488351232) (hgl : S.cfg.sys.groups.length ≤ 1099511627776) (ha : r.args.size ≤ 140737488351232) :
    Calls Tryz.prog 125 (#[.int .i64 water] ++ r.caps) w fun e w' => e = .returned (.agg #[.int .i64 S.cfg.addr, .int .i64 r.dst, .string (requestM S r water)]) ∧ Fr (fun _ => False) w w' := by
  have xc : w.cell? ⟨r.qc, 0, none⟩ = some (.pointer (some ⟨b, 0, none⟩)) := cellOf hr.c 0
  have xs : w.cell? ⟨r.qs, 0, none⟩ = some (.int .i64 r.seq) := cellOf hr.s 0
  have xp : w.cell? ⟨r.qp, 0, none⟩ = some (.int .i64 r.prog) := cellOf hr.p 0
  have xv : w.cell? ⟨r.qv, 0, none⟩ = some (.int .i64 r.vers) := cellOf hr.v 0
  have xy : w.cell? ⟨r.qr, 0, none⟩ = some (.int .i64 r.proc) := cellOf hr.y 0
  have xa : w.cell? ⟨r.qa, 0, none⟩ = some (.string r.args) := cellOf hr.a 0
  have xt : w.cell? ⟨r.qt, 0, none⟩ = some (.int .i64 r.dst) := cellOf hr.t 0
  have lqc := lt_of_block hr.c
  have lqs := lt_of_block hr.s
  have lqp := lt_of_block hr.p
  have lqv := lt_of_block hr.v
  have lqy := lt_of_block hr.y
  have lqa := lt_of_block hr.a
  have lqt := lt_of_block hr.t
  have HH := Lib.hid h
  have HR := Lib.hid hr
  have HB := Lib.hid h.box
  have HG := Lib.hid hg
  have hbz : b < w.heap.size := lt_of_block h.box
  rw [cliBox_cells] at HB
  have n0 : w.cell? ⟨b, 0, none⟩ = some (.int .i64 S.cfg.addr) := cellOf HB.out 0
  have n1 : w.cell? ⟨b, 1, none⟩ = some (.int .i64 S.cfg.inst) := cellOf HB.out 1
  have n7 : w.cell? ⟨b, 7, none⟩ = some (.int .i64 S.cfg.sys.stamp) := cellOf HB.out 7
  have n8 : w.cell? ⟨b, 8, none⟩ = some (.string S.cfg.sys.machine) := cellOf HB.out 8
  have n9 : w.cell? ⟨b, 9, none⟩ = some (.int .i64 S.cfg.sys.user) := cellOf HB.out 9
  have n10 : w.cell? ⟨b, 10, none⟩ = some (.int .i64 S.cfg.sys.group) := cellOf HB.out 10
  have n11 : w.cell? ⟨b, 11, none⟩ = some (.slice S.A S.cfg.sys.groups.length S.n) := cellOf HB.out 11
  have HI := Lib.hid (fun (w' : World) (hf : Fr (fun _ => False) w w') => (show IntsAt w' S.A S.cfg.sys.groups from (h.grown hf).rest.grp))
  have HE := Lib.hid (fun (w' : World) (hf : Fr (fun _ => False) w w') => hg.fr hf id)
  have HD := Lib.hid (fun (w' : World) (hf : Fr (fun _ => False) w w') => (show ∀ a, S.A = some a → a.block < w'.heap.size from fun a ha => Nat.lt_of_lt_of_le (h.rest.grpT a ha).1 hf.size))
  have HM := Lib.hid (And.intro hm (show S.cfg.sys.groups.length ≤ 140737488351232 by omega))
  have HP := Lib.hid (fun (w' : World) (hf : Fr (fun _ => False) w w') => (show Calls Tryz.prog 126 #[.agg #[.int .i64 S.cfg.inst, .int .i64 r.seq, .int .i64 water, .int .i64 S.cfg.sys.stamp, .string S.cfg.sys.machine, .int .i64 S.cfg.sys.user, .int .i64 S.cfg.sys.group, .slice S.A S.cfg.sys.groups.length S.n]] w' _ from PrintMark_any (cmarkOf S r water) S.A S.n w' (HI.out _ hf) (HE.out _ hf) (HD.out _ hf) HM.out.1 HM.out.2))
  have HQ : Hid (∀ (w' : World) (hf : Fr (fun _ => False) w w'), Calls Tryz.prog 127 #[.agg #[.int .i64 r.seq, .int .i64 2, .int .i64 r.prog, .int .i64 r.vers, .int .i64 r.proc, .int .i64 (printMarkM (cmarkOf S r water)).1, .string (printMarkM (cmarkOf S r water)).2.1, .int .i64 0, .string ByteArray.empty, .string r.args]] w' fun e w2 => e = .returned (.tuple #[.string (requestM S r water), .int .i64 (printCallM ⟨r.seq, 2, r.prog, r.vers, r.proc, ⟨(printMarkM (cmarkOf S r water)).1, (printMarkM (cmarkOf S r water)).2.1⟩, ⟨0, ByteArray.empty⟩, r.args⟩).2]) ∧ Fr (fun _ => False) w' w2) :=
    Lib.hid (fun w' hf => PrintCall_any ⟨r.seq, 2, r.prog, r.vers, r.proc, ⟨(printMarkM (cmarkOf S r water)).1, (printMarkM (cmarkOf S r water)).2.1⟩, ⟨0, ByteArray.empty⟩, r.args⟩ w' (HE.out _ hf) (printMark_size _) (Nat.zero_le _) ha)
  clear h hr hg hm hgl HI HD HM ha
  show Calls _ _ #[.int .i64 water, .pointer (some ⟨r.qc, 0, none⟩), .pointer (some ⟨r.qs, 0, none⟩), .pointer (some ⟨r.qp, 0, none⟩), .pointer (some ⟨r.qv, 0, none⟩), .pointer (some ⟨r.qr, 0, none⟩), .pointer (some ⟨r.qa, 0, none⟩), .pointer (some ⟨r.qt, 0, none⟩)] _ _
  go_enter Tryz.func125, Tryz.ntmps125
  go_wp2_with fail
  go_region_held3 (fun w' => w'.cell? ⟨r.qc, 0, none⟩ = some (.pointer (some ⟨b, 0, none⟩)) ∧ w'.cell? ⟨b, 1, none⟩ = some (.int .i64 S.cfg.inst) ∧ w'.cell? ⟨r.qs, 0, none⟩ = some (.int .i64 r.seq) ∧ w'.cell? ⟨b, 7, none⟩ = some (.int .i64 S.cfg.sys.stamp) ∧ w'.cell? ⟨b, 8, none⟩ = some (.string S.cfg.sys.machine) ∧ w'.cell? ⟨b, 9, none⟩ = some (.int .i64 S.cfg.sys.user) ∧ w'.cell? ⟨b, 10, none⟩ = some (.int .i64 S.cfg.sys.group) ∧ w'.cell? ⟨b, 11, none⟩ = some (.slice S.A S.cfg.sys.groups.length S.n))
    (first
      | go_keep
      | exact ⟨kc, m1, ks, m7, m8, m9, m10, m11⟩
      | (refine ⟨?_, ?_, ?_, ?_, ?_, ?_, ?_, ?_⟩ <;> (rw [World.cell?_setCell_far _ _ _ _ (by simp; omega), World.cell?_setCell_far _ _ _ _ (by simp; omega)]; assumption)))
    (first
      | (go_at_call 126; refine (HP.out _ (((Fr.refl (fun _ => False) w).alloc (.cells #[.int .i64 0, .int .i64 0, .string ByteArray.empty] 118)).drew)).mono ?_; rintro e w2 ⟨rfl, hf2⟩; have hF : Fr (fun _ => False) w w2 := (((Fr.refl (fun _ => False) w).alloc (.cells #[.int .i64 0, .int .i64 0, .string ByteArray.empty] 118)).drew).trans hf2; have hxP : w2.heap[w.heap.size]? = some (.cells #[.int .i64 0, .int .i64 0, .string ByteArray.empty] 118 (0, 0)) := (hf2.block _ (by simp) id).trans (heap_alloc_new w _); have kk : ∀ (a : Addr) v, w.cell? a = some v → w2.cell? a = some v := fun a v hc => (World.cell?_of_block (w := w) (hF.block _ (World.block_lt_of_cell? _ _ hc) id)).trans hc; have kc := kk _ _ xc; have ks := kk _ _ xs; have kp := kk _ _ xp; have kv := kk _ _ xv; have ky := kk _ _ xy; have ka := kk _ _ xa; have kt := kk _ _ xt; have m0 := kk _ _ n0; have m1 := kk _ _ n1; have m7 := kk _ _ n7; have m8 := kk _ _ n8; have m9 := kk _ _ n9; have m10 := kk _ _ n10; have m11 := kk _ _ n11; clear kk hf2)
      | (go_at_call 126; refine (HP.out _ ((((Fr.refl (fun _ => False) w).alloc (.cells #[.int .i64 0, .int .i64 0, .string ByteArray.empty] 118)).alloc (.cells #[.int .i64 0, .string ByteArray.empty] 43)).drew)).mono ?_; rintro e w2 ⟨rfl, hf2⟩; have hF : Fr (fun _ => False) w w2 := ((((Fr.refl (fun _ => False) w).alloc (.cells #[.int .i64 0, .int .i64 0, .string ByteArray.empty] 118)).alloc (.cells #[.int .i64 0, .string ByteArray.empty] 43)).drew).trans hf2; have hxP : w2.heap[w.heap.size]? = some (.cells #[.int .i64 0, .int .i64 0, .string ByteArray.empty] 118 (0, 0)) := (hf2.block _ (by simp; omega) id).trans (heap_old (heap_alloc_new w _)); have hxA : w2.heap[w.heap.size + 1]? = some (.cells #[.int .i64 0, .string ByteArray.empty] 43 (0, 0)) := (hf2.block _ (by simp) id).trans (heap_two (w := w)); have a0 := cellOf hxA 0; have a1 := cellOf hxA 1; have fa0 := freeOf hxA 0; have fa1 := freeOf hxA 1; have kk : ∀ (a : Addr) v, w.cell? a = some v → w2.cell? a = some v := fun a v hc => (World.cell?_of_block (w := w) (hF.block _ (World.block_lt_of_cell? _ _ hc) id)).trans hc; have kc := kk _ _ xc; have ks := kk _ _ xs; have kp := kk _ _ xp; have kv := kk _ _ xv; have ky := kk _ _ xy; have ka := kk _ _ xa; have kt := kk _ _ xt; have m0 := kk _ _ n0; have m1 := kk _ _ n1; have m7 := kk _ _ n7; have m8 := kk _ _ n8; have m9 := kk _ _ n9; have m10 := kk _ _ n10; have m11 := kk _ _ n11; clear kk hf2))
  all_goals (
    clear kc ks kp kv ky ka kt m0 m1 m7 m8 m9 m10 m11
    first
      | (have hW : Fr (fun _ => False) w ((w2.setCell ⟨w.heap.size + 1, 0, none⟩ (.int .i64 (printMarkM (cmarkOf S r water)).1)).setCell ⟨w.heap.size + 1, 1, none⟩ (.string (printMarkM (cmarkOf S r water)).2.1)) := (hF.setCell (.inr (by simp)) _).setCell (.inr (by simp)) _
         have hB : ((w2.setCell ⟨w.heap.size + 1, 0, none⟩ (.int .i64 (printMarkM (cmarkOf S r water)).1)).setCell ⟨w.heap.size + 1, 1, none⟩ (.string (printMarkM (cmarkOf S r water)).2.1)).heap[w.heap.size + 1]? = some (.cells #[.int .i64 (printMarkM (cmarkOf S r water)).1, .string (printMarkM (cmarkOf S r water)).2.1] 43) := (setOf' (setOf' hxA 0 _) 1 _).trans rfl
         have hP3 : ((w2.setCell ⟨w.heap.size + 1, 0, none⟩ (.int .i64 (printMarkM (cmarkOf S r water)).1)).setCell ⟨w.heap.size + 1, 1, none⟩ (.string (printMarkM (cmarkOf S r water)).2.1)).heap[w.heap.size]? = some (.cells #[.int .i64 0, .int .i64 0, .string ByteArray.empty] 118 (0, 0)) := (Below.heap_setCell _ _ _ _ (by simp)).trans ((Below.heap_setCell _ _ _ _ (by simp)).trans hxP)
         clear hxP hxA a0 a1 fa0 fa1
         generalize ((w2.setCell ⟨w.heap.size + 1, 0, none⟩ (.int .i64 (printMarkM (cmarkOf S r water)).1)).setCell ⟨w.heap.size + 1, 1, none⟩ (.string (printMarkM (cmarkOf S r water)).2.1)) = w3 at *)
      | (have hW : Fr (fun _ => False) w (w2.alloc (.cells #[.int .i64 (printMarkM (cmarkOf S r water)).1, .string (printMarkM (cmarkOf S r water)).2.1] 43)) := hF.alloc _
         have hB := heap_alloc_new w2 (.cells #[.int .i64 (printMarkM (cmarkOf S r water)).1, .string (printMarkM (cmarkOf S r water)).2.1] 43)
         have hP3 := heap_old (o := (.cells #[.int .i64 (printMarkM (cmarkOf S r water)).1, .string (printMarkM (cmarkOf S r water)).2.1] 43)) hxP
         clear hxP
         generalize w2.alloc (.cells #[.int .i64 (printMarkM (cmarkOf S r water)).1, .string (printMarkM (cmarkOf S r water)).2.1] 43) = w3 at *)
    clear hF
    have kk : ∀ (a : Addr) v, w.cell? a = some v → w3.cell? a = some v := fun a v hc => (World.cell?_of_block (w := w) (hW.block _ (World.block_lt_of_cell? _ _ hc) id)).trans hc
    have ks := kk _ _ xs
    have kp := kk _ _ xp
    have kv := kk _ _ xv
    have ky := kk _ _ xy
    have ka := kk _ _ xa
    clear kk
    have a0 := cellOf hB 0
    have a1 := cellOf hB 1
    clear hB
    have HW := Lib.hid hW
    have HP3 := Lib.hid hP3
    clear hW hP3
    go_wp2_with fail
    refine (HQ.out _ HW.out).mono ?_
    rintro e w4 ⟨rfl, hf4⟩
    clear ks kp kv ky ka a0 a1
    have hW := HW.out.trans hf4
    have hP4 := (hf4.block _ (lt_of_block HP3.out) id).trans HP3.out
    have kk : ∀ (a : Addr) v, w.cell? a = some v → w4.cell? a = some v := fun a v hc => (World.cell?_of_block (w := w) (hW.block _ (World.block_lt_of_cell? _ _ hc) id)).trans hc
    have kc := kk _ _ xc
    have kt := kk _ _ xt
    have m0 := kk _ _ n0
    clear kk hf4
    have p0 : w4.cell? ⟨w.heap.size, 0, none⟩ = some (.int .i64 0) := cellOf hP4 0
    have p1 : w4.cell? ⟨w.heap.size, 1, none⟩ = some (.int .i64 0) := cellOf hP4 1
    have p2 : w4.cell? ⟨w.heap.size, 2, none⟩ = some (.string ByteArray.empty) := cellOf hP4 2
    have f0 := freeOf hP4 0
    have f1 := freeOf hP4 1
    have f2 := freeOf hP4 2
    have HW4 := Lib.hid hW
    have hz4 : w.heap.size < w4.heap.size := lt_of_block hP4
    clear hW hP4 xc xs xp xv xy xa xt n0 n1 n7 n8 n9 n10 n11 HW HP3
    go_wp2_with fail
    go_region
    go_wp2
    refine bodyPost_ret (v := .agg #[.int .i64 S.cfg.addr, .int .i64 r.dst, .string (requestM S r water)]) ?_ rfl ⟨rfl, ?_⟩
    · simp [results, Tryz.results125, go_sem, p0, p1, p2, hz4]
    · first
        | exact (((HW4.out.setCell (.inr (Nat.le_refl _)) _).setCell (.inr (Nat.le_refl _)) _).setCell (.inr (Nat.le_refl _)) _).drew
        | exact (((HW4.out.drew.setCell (.inr (Nat.le_refl _)) _).setCell (.inr (Nat.le_refl _)) _).setCell (.inr (Nat.le_refl _)) _)
        | exact (((HW4.out.setCell (.inr (Nat.le_refl _)) _).setCell (.inr (Nat.le_refl _)) _).setCell (.inr (Nat.le_refl _)) _))
end Go.Proofs.YtbegjpmifcnieaaGreatDoor

/- A client: Due. -/
namespace Go.Proofs.YtbegjpmifcnieaaGreatDoor
open Go.RowKit
set_option linter.unusedVariables false
set_option linter.unusedSimpArgs false

structure PackM where
  src : Int
  dst : Int
  data : ByteArray
def PackM.cells (p : PackM) : List Value := [.int .i64 p.src, .int .i64 p.dst, .string p.data]
def packRow (l : List PackM) : List Value := l.flatMap PackM.cells
theorem packRow_append (l : List PackM) (o : PackM) : packRow (l ++ [o]) = packRow l ++ o.cells := by simp [packRow]
theorem packRow_length (l : List PackM) : (packRow l).length = l.length * 3 := by
  induction l with
  | nil => rfl
  | cons o l ih => simp only [packRow, List.flatMap_cons, List.length_append, List.length_cons] at *; rw [ih]; simp only [PackM.cells, List.length_cons, List.length_nil]; omega

/-- the same call, but for what is counted. -/
structure SameCall (r r' : CallR) : Prop where
  blocks : r'.blocks = r.blocks
  k : r'.k = r.k
  qc : r'.qc = r.qc
  qs : r'.qs = r.qs
  qp : r'.qp = r.qp
  qv : r'.qv = r.qv
  qr : r'.qr = r.qr
  qa : r'.qa = r.qa
  qt : r'.qt = r.qt
  seq : r'.seq = r.seq
  dst : r'.dst = r.dst
  prog : r'.prog = r.prog
  vers : r'.vers = r.vers
  proc : r'.proc = r.proc
  args : r'.args = r.args
/-- a store into a call's own cells. -/
theorem Cli.setCall {w : World} {b : Nat} {S : CliS} (h : Cli w b S) {l1 l2 : List CallR} {r r' : CallR} (hl : S.calls = l1 ++ r :: l2) (hs : SameCall r r') (i : Nat) (v : Value) (hc : r'.cells = r.cells.setIfInBounds i v) :
    Cli (w.setCell ⟨r.k, i, none⟩ v) b { S with calls := l1 ++ r' :: l2 } := by
  have hr : r ∈ S.calls := by rw [hl]; simp
  have hbx := (h.rest.each r hr).box
  have nt : ∀ (k : Nat) (c : Array Value) (t : Nat), w.heap[k]? = some (.cells c t (0, 0)) → t ≠ 230 → (w.setCell ⟨r.k, i, none⟩ v).heap[k]? = w.heap[k]? := fun k c t hk ht => Below.heap_setCell _ _ _ _ (fun e => by
    rw [show (⟨r.k, i, none⟩ : Addr).block = r.k from rfl] at e
    rw [e, hbx] at hk
    simp only [Option.some.injEq, Obj.cells.injEq] at hk
    exact ht hk.2.1.symm)
  have hkn : ∀ q ∈ l1 ++ l2, q.k ≠ r.k := by
    have hn := h.rest.nodup
    rw [hl, List.map_append, List.map_cons] at hn
    intro q hq e
    obtain ⟨_, h2, h3⟩ := List.nodup_append.1 hn
    rcases List.mem_append.1 hq with hq | hq
    · exact h3 q.k (List.mem_map.2 ⟨q, hq, rfl⟩) r.k List.mem_cons_self e
    · exact (List.nodup_cons.1 h2).1 (List.mem_map.2 ⟨q, hq, e⟩)
  have old : ∀ q ∈ l1 ++ l2, CallAt (w.setCell ⟨r.k, i, none⟩ v) b q := fun q hq => by
    have hqm : q ∈ S.calls := by rw [hl]; rcases List.mem_append.1 hq with h | h <;> simp [h]
    have hqa := h.rest.each q hqm
    refine hqa.keep (fun k hm => Below.heap_setCell _ _ _ _ ?_)
    show k ≠ r.k
    by_cases e : k = q.k
    · rw [e]; exact hkn q hq
    · exact hqa.caps_ne hbx hm e
  have new : CallAt (w.setCell ⟨r.k, i, none⟩ v) b r' := by
    have ha := h.rest.each r hr
    refine ⟨?_, ?_, ?_, ?_, ?_, ?_, ?_, ?_⟩
    · rw [hs.k, hc]; exact setOf' hbx i v
    · rw [hs.qc]; exact (nt _ _ _ ha.c (by decide)).trans ha.c
    · rw [hs.qs, hs.seq]; exact (nt _ _ _ ha.s (by decide)).trans ha.s
    · rw [hs.qp, hs.prog]; exact (nt _ _ _ ha.p (by decide)).trans ha.p
    · rw [hs.qv, hs.vers]; exact (nt _ _ _ ha.v (by decide)).trans ha.v
    · rw [hs.qr, hs.proc]; exact (nt _ _ _ ha.y (by decide)).trans ha.y
    · rw [hs.qa, hs.args]; exact (nt _ _ _ ha.a (by decide)).trans ha.a
    · rw [hs.qt, hs.dst]; exact (nt _ _ _ ha.t (by decide)).trans ha.t
  have hz : w.heap.size = (w.setCell ⟨r.k, i, none⟩ v).heap.size := (World.size_setCell _ _ _).symm
  have hmap : (l1 ++ r' :: l2).map (fun r => ptrV r.k) = S.calls.map fun r => ptrV r.k := by rw [hl]; simp [hs.k]
  have hlen : (l1 ++ r' :: l2).length = S.calls.length := by rw [hl]; simp
  have hA : ∀ a, S.A = some a → (w.setCell ⟨r.k, i, none⟩ v).heap[a.block]? = w.heap[a.block]? := fun a ha => Below.heap_setCell _ _ _ _ (fun e => by
    rw [show (⟨r.k, i, none⟩ : Addr).block = r.k from rfl] at e
    obtain ⟨x, hx⟩ := (h.rest.grpT a ha).2 _ (by rw [e]; exact hbx)
    simp at hx)
  refine ⟨(nt _ _ _ h.box (by decide)).trans h.box, (nt _ _ _ h.rest.met (by decide)).trans h.rest.met, ?_, fun a ha => ⟨hz ▸ (h.rest.grpT a ha).1, fun c hc => (h.rest.grpT a ha).2 c (by rw [← hA a ha]; exact hc)⟩, ?_, ?_, ?_, ?_⟩
  · rcases h.rest.grp with h0 | ⟨g, off, ha, hg, hc⟩
    · exact .inl h0
    · have e := hA ⟨g, off, none⟩ ha
      exact .inr ⟨g, off, ha, hz ▸ hg, fun j hj => (World.cell?_of_block (w := w) (a := ⟨g, off + j, none⟩) e).trans (hc j hj)⟩
  · show World.ownsRow _ 0 _ 1 S.vc (l1 ++ r' :: l2).length ((l1 ++ r' :: l2).map fun r => ptrV r.k)
    rw [hmap, hlen]
    refine ownsRow_keep h.rest.own (fun g e => Below.heap_setCell _ _ _ _ (fun e2 => ?_))
    exact h.rest.vc_ne hbx (by decide) (by rw [e]; exact congrArg some e2)
  · refine ownsRow_keep h.rest.outs (fun g e => ?_)
    rcases h.rest.outs.2 with ⟨h0, _⟩ | ⟨g', cap, cur, h0, _, hg, _⟩
    · rw [h0] at e; cases e
    · rw [h0] at e; obtain rfl : g' = g := Option.some.inj e; exact nt _ _ _ hg (by decide)
  · intro q hq
    rcases List.mem_append.1 hq with hq | hq
    · exact old q (List.mem_append_left _ hq)
    · rcases List.mem_cons.1 hq with rfl | hq
      · exact new
      · exact old q (List.mem_append_right _ hq)
  · have : (l1 ++ r' :: l2).map (·.k) = S.calls.map (·.k) := by rw [hl]; simp [hs.k]
    show ((l1 ++ r' :: l2).map (·.k)).Nodup
    rw [this]
    exact h.rest.nodup

structure CallN (r : CallR) : Prop where
  i0 : 0 ≤ r.iss
  i1 : r.iss ≤ 4611686018427387904
  g0 : 0 ≤ r.given
  g1 : r.given ≤ 4611686018427387904
  ar : r.args.size ≤ 140737488351232
/-- what Due makes of a call that waits, and what it gives. -/
def dueCall (p : PaceM) (now : Int) (r : CallR) : CallR :=
  if dueM p r.iss now ≤ r.done then r else { r with done := dueM p r.iss now, first := if r.given = 0 then now else r.first, given := r.given + 1 }
def dueOut (S : CliS) (water : Int) (r : CallR) : List PackM :=
  if dueM S.cfg.pace r.iss S.now ≤ r.done then [] else [⟨S.cfg.addr, r.dst, requestM S r water⟩]
def dueOuts (S : CliS) (water : Int) (l : List CallR) : List PackM := l.flatMap (dueOut S water)
theorem dueCall_same (p : PaceM) (now : Int) (r : CallR) : SameCall r (dueCall p now r) := by
  unfold dueCall
  split <;> exact ⟨rfl, rfl, rfl, rfl, rfl, rfl, rfl, rfl, rfl, rfl, rfl, rfl, rfl, rfl, rfl⟩
/-- behind k rounds. -/
def dueS (S : CliS) (k : Nat) : CliS := { S with calls := (S.calls.take k).map (dueCall S.cfg.pace S.now) ++ S.calls.drop k }
theorem dueS_zero (S : CliS) : dueS S 0 = S := by unfold dueS; simp
theorem dueS_end (S : CliS) : dueS S S.calls.length = { S with calls := S.calls.map (dueCall S.cfg.pace S.now) } := by unfold dueS; simp
theorem dueS_calls (S : CliS) {k : Nat} (hk : k < S.calls.length) : (dueS S k).calls = (S.calls.take k).map (dueCall S.cfg.pace S.now) ++ S.calls[k] :: S.calls.drop (k + 1) := by
  unfold dueS
  show _ ++ S.calls.drop k = _
  rw [List.drop_eq_getElem_cons hk]
theorem dueS_succ (S : CliS) {k : Nat} (hk : k < S.calls.length) : dueS S (k + 1) = { dueS S k with calls := (S.calls.take k).map (dueCall S.cfg.pace S.now) ++ dueCall S.cfg.pace S.now S.calls[k] :: S.calls.drop (k + 1) } := by
  unfold dueS
  have e : (S.calls.take (k + 1)).map (dueCall S.cfg.pace S.now) ++ S.calls.drop (k + 1) = (S.calls.take k).map (dueCall S.cfg.pace S.now) ++ dueCall S.cfg.pace S.now S.calls[k] :: S.calls.drop (k + 1) := by
    rw [List.take_succ_eq_append_getElem hk, List.map_append, List.append_assoc, List.map_cons, List.map_nil, List.singleton_append]
  show { S with calls := _ } = _
  rw [e]
theorem dueOuts_succ (S : CliS) (water : Int) {k : Nat} (hk : k < S.calls.length) : dueOuts S water (S.calls.take (k + 1)) = dueOuts S water (S.calls.take k) ++ dueOut S water S.calls[k] := by
  unfold dueOuts
  rw [List.take_succ_eq_append_getElem hk, List.flatMap_append]
  simp only [List.flatMap_cons, List.flatMap_nil, List.append_nil]
theorem dueOuts_le (S : CliS) (water : Int) (l : List CallR) : (dueOuts S water l).length ≤ l.length := by
  induction l with
  | nil => simp [dueOuts]
  | cons r l ih =>
    simp only [dueOuts, List.flatMap_cons, List.length_append, List.length_cons] at *
    have : (dueOut S water r).length ≤ 1 := by unfold dueOut; split <;> simp
    omega
theorem dueS_vc (S : CliS) (k : Nat) : (dueS S k).vc = S.vc := rfl

theorem Clip_any (A : Option Addr) (n c : Nat) (w : World) (hn : n ≤ c) (hc : c ≤ maxLen) : Calls Tryz.prog 129 #[.slice A n c] w fun r w' => r = .returned (.slice A n n) ∧ w' = w := by
  unfold maxLen at hc
  go_enter Tryz.func129, Tryz.ntmps129
  go_wp2
  go_ret
  exact ⟨rfl, rfl⟩
theorem Cli.given0 {w : World} {b : Nat} {S : CliS} (h : Cli w b S) {l1 l2 : List CallR} {r : CallR} (hl : S.calls = l1 ++ r :: l2) (n now : Int) :
    Cli (((w.setCell ⟨r.k, 3, none⟩ (.int .i64 n)).setCell ⟨r.k, 5, none⟩ (.int .i64 now)).setCell ⟨r.k, 4, none⟩ (.int .i64 1)) b { S with calls := l1 ++ { r with done := n, first := now, given := 1 } :: l2 } :=
  ((h.setCall hl (r' := { r with done := n }) ⟨rfl, rfl, rfl, rfl, rfl, rfl, rfl, rfl, rfl, rfl, rfl, rfl, rfl, rfl, rfl⟩ 3 (.int .i64 n) rfl).setCall (l1 := l1) (l2 := l2) (r := { r with done := n }) (r' := { r with done := n, first := now }) rfl ⟨rfl, rfl, rfl, rfl, rfl, rfl, rfl, rfl, rfl, rfl, rfl, rfl, rfl, rfl, rfl⟩ 5 (.int .i64 now) rfl).setCall (l1 := l1) (l2 := l2) (r := { r with done := n, first := now }) (r' := { r with done := n, first := now, given := 1 }) rfl ⟨rfl, rfl, rfl, rfl, rfl, rfl, rfl, rfl, rfl, rfl, rfl, rfl, rfl, rfl, rfl⟩ 4 (.int .i64 1) rfl
theorem Cli.given1 {w : World} {b : Nat} {S : CliS} (h : Cli w b S) {l1 l2 : List CallR} {r : CallR} (hl : S.calls = l1 ++ r :: l2) (n x : Int) :
    Cli ((w.setCell ⟨r.k, 3, none⟩ (.int .i64 n)).setCell ⟨r.k, 4, none⟩ (.int .i64 x)) b { S with calls := l1 ++ { r with done := n, given := x } :: l2 } :=
  (h.setCall hl (r' := { r with done := n }) ⟨rfl, rfl, rfl, rfl, rfl, rfl, rfl, rfl, rfl, rfl, rfl, rfl, rfl, rfl, rfl⟩ 3 (.int .i64 n) rfl).setCall (l1 := l1) (l2 := l2) (r := { r with done := n }) (r' := { r with done := n, given := x }) rfl ⟨rfl, rfl, rfl, rfl, rfl, rfl, rfl, rfl, rfl, rfl, rfl, rfl, rfl, rfl, rfl⟩ 4 (.int .i64 x) rfl
theorem dueCall_0 (p : PaceM) (now : Int) (r : CallR) (n : Int) (hn : n = dueM p r.iss now) (hd : r.done < n) (h0 : r.given = 0) : dueCall p now r = { r with done := n, first := now, given := 1 } := by
  unfold dueCall
  rw [← hn, if_neg (by omega), if_pos h0, h0]
  rfl
theorem dueCall_1 (p : PaceM) (now : Int) (r : CallR) (n : Int) (hn : n = dueM p r.iss now) (hd : r.done < n) (h0 : r.given ≠ 0) : dueCall p now r = { r with done := n, given := r.given + 1 } := by
  unfold dueCall
  rw [← hn, if_neg (by omega), if_neg h0]
theorem request_same {S S' : CliS} {r r' : CallR} (hs : SameCall r r') (hc : S'.cfg = S.cfg) (water : Int) : requestM S' r' water = requestM S r water := by
  unfold requestM cmarkOf
  rw [hc, hs.seq, hs.prog, hs.vers, hs.proc, hs.args]
theorem caps_same {r r' : CallR} (hs : SameCall r r') : r'.caps = r.caps := by
  unfold CallR.caps
  rw [hs.qc, hs.qs, hs.qp, hs.qv, hs.qr, hs.qa, hs.qt]
/-- the request of a call that was counted on. -/
theorem request_of {w : World} {b : Nat} {S S' : CliS} (h : Cli w b S') (hc : S'.cfg = S.cfg) (hg : ErrT w) {r r' : CallR} (hs : SameCall r r') (hr : r' ∈ S'.calls) (water : Int) (hm : S.cfg.sys.machine.size ≤ 140737488351232) (hgl : S.cfg.sys.groups.length ≤ 1099511627776) (ha : r.args.size ≤ 140737488351232) :
    Calls Tryz.prog 125 #[.int .i64 water, .pointer (some ⟨r.qc, 0, none⟩), .pointer (some ⟨r.qs, 0, none⟩), .pointer (some ⟨r.qp, 0, none⟩), .pointer (some ⟨r.qv, 0, none⟩), .pointer (some ⟨r.qr, 0, none⟩), .pointer (some ⟨r.qa, 0, none⟩), .pointer (some ⟨r.qt, 0, none⟩)] w fun e w' => e = .returned (.agg #[.int .i64 S.cfg.addr, .int .i64 r.dst, .string (requestM S r water)]) ∧ Fr (fun _ => False) w w' := by
  have := request_any h hg r' (h.rest.each r' hr) water (by rw [hc]; exact hm) (by rw [hc]; exact hgl) (by rw [hs.args]; exact ha)
  rw [request_same hs hc, caps_same hs, hs.dst, hc] at this
  exact this
theorem fr_two {w w2 : World} {q : Nat} (h : Fr (fun _ => False) w w2) (i j : Nat) (u v : Value) : Fr (fun k => k = q) w ((w2.setCell ⟨q, i, none⟩ u).setCell ⟨q, j, none⟩ v) := by
  have h1 : Fr (fun k => k = q) w w2 := h.mono (fun _ _ e => e.elim)
  have h2 : Fr (fun k => k = q) w (w2.setCell ⟨q, i, none⟩ u) := h1.setCell (p := ⟨q, i, none⟩) (.inl rfl) u
  exact h2.setCell (p := ⟨q, j, none⟩) (.inl rfl) v
theorem fr_three {w w2 : World} {q : Nat} (h : Fr (fun _ => False) w w2) (i j l : Nat) (u v x : Value) : Fr (fun k => k = q) w (((w2.setCell ⟨q, i, none⟩ u).setCell ⟨q, j, none⟩ v).setCell ⟨q, l, none⟩ x) :=
  (fr_two h i j u v).setCell (p := ⟨q, l, none⟩) (.inl rfl) x
end Go.Proofs.YtbegjpmifcnieaaGreatDoor
