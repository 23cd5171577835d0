/- A client: the request of a call that waits. -/
import Derived.Test.YtlcjfafmmoncpaaGreatDoorEh
import Derived.Test.YtlcjfafmmoncpaaGreatDoorCm
import Derived.Test.YtlcjfafmmoncpaaGreatDoorMc
import Derived.Laws.Rows
import Derived.BigRegion
import Derived.Deep.RegionHeld3
namespace Go.Proofs.YtlcjfafmmoncpaaGreatDoor
open Go.RowKit
set_option linter.unusedVariables false
set_option linter.unusedSimpArgs false

def markOf (S : CliS) (r : CallR) (water : Int) : MarkM := ⟨S.cfg.inst, r.seq, water, S.cfg.sys⟩
def requestM (S : CliS) (r : CallR) (water : Int) : ByteArray :=
  (printCallM ⟨r.seq, 2, r.prog, r.vers, r.proc, ⟨(printMarkM (markOf S r water)).1, (printMarkM (markOf S r water)).2.1⟩, ⟨0, ByteArray.empty⟩, r.args⟩).1

theorem printMark_size (m : MarkM) : (printMarkM m).2.1.size ≤ 140737488351232 := by
  unfold printMarkM
  split
  · have h := (((((newW_ok (m := 1024) (by decide) (by decide)).hyper m.inst).hyper m.seq).hyper m.water).sys m.sys).size
    show (WSt.body _).size ≤ _
    unfold WSt.body
    split
    · omega
    · exact Nat.zero_le _
  · exact Nat.zero_le _

set_option maxRecDepth 100000 in
set_option maxHeartbeats 4000000 in
theorem request_any {w : World} {b : Nat} {S : CliS} (h : Cli w b S) (hg : ErrT w) (r : CallR) (hr : CallAt w b r) (water : Int) (hm : S.cfg.sys.machine.size ≤ 140737488351232) (hgl : S.cfg.sys.groups.length ≤ 1099511627776) (ha : r.args.size ≤ 140737488351232) :
    Calls Tryz.prog 105 (#[.int .i64 water] ++ r.caps) w fun e w' => e = .returned (.agg #[.int .i64 S.cfg.addr, .int .i64 r.dst, .string (requestM S r water)]) ∧ Fr (fun _ => False) w w' := by
  have xc : w.cell? ⟨r.qc, 0, none⟩ = some (.pointer (some ⟨b, 0, none⟩)) := cellOf hr.c 0
  have xs : w.cell? ⟨r.qs, 0, none⟩ = some (.int .i64 r.seq) := cellOf hr.s 0
  have xp : w.cell? ⟨r.qp, 0, none⟩ = some (.int .i64 r.prog) := cellOf hr.p 0
  have xv : w.cell? ⟨r.qv, 0, none⟩ = some (.int .i64 r.vers) := cellOf hr.v 0
  have xy : w.cell? ⟨r.qr, 0, none⟩ = some (.int .i64 r.proc) := cellOf hr.y 0
  have xa : w.cell? ⟨r.qa, 0, none⟩ = some (.string r.args) := cellOf hr.a 0
  have xt : w.cell? ⟨r.qt, 0, none⟩ = some (.int .i64 r.dst) := cellOf hr.t 0
  have lqc := lt_of_block hr.c
  have lqs := lt_of_block hr.s
  have lqp := lt_of_block hr.p
  have lqv := lt_of_block hr.v
  have lqy := lt_of_block hr.y
  have lqa := lt_of_block hr.a
  have lqt := lt_of_block hr.t
  have HH := Lib.hid h
  have HR := Lib.hid hr
  have HB := Lib.hid h.box
  have HG := Lib.hid hg
  have hbz : b < w.heap.size := lt_of_block h.box
  rw [cliBox_cells] at HB
  have n0 : w.cell? ⟨b, 0, none⟩ = some (.int .i64 S.cfg.addr) := cellOf HB.out 0
  have n1 : w.cell? ⟨b, 1, none⟩ = some (.int .i64 S.cfg.inst) := cellOf HB.out 1
  have n7 : w.cell? ⟨b, 7, none⟩ = some (.int .i64 S.cfg.sys.stamp) := cellOf HB.out 7
  have n8 : w.cell? ⟨b, 8, none⟩ = some (.string S.cfg.sys.machine) := cellOf HB.out 8
  have n9 : w.cell? ⟨b, 9, none⟩ = some (.int .i64 S.cfg.sys.user) := cellOf HB.out 9
  have n10 : w.cell? ⟨b, 10, none⟩ = some (.int .i64 S.cfg.sys.group) := cellOf HB.out 10
  have n11 : w.cell? ⟨b, 11, none⟩ = some (.slice S.A S.cfg.sys.groups.length S.n) := cellOf HB.out 11
  have HI := Lib.hid (fun (w' : World) (hf : Fr (fun _ => False) w w') => (show IntsAt w' S.A S.cfg.sys.groups from (h.grown hf).rest.grp))
  have HE := Lib.hid (fun (w' : World) (hf : Fr (fun _ => False) w w') => hg.fr hf id)
  have HD := Lib.hid (fun (w' : World) (hf : Fr (fun _ => False) w w') => (show ∀ a, S.A = some a → a.block < w'.heap.size from fun a ha => Nat.lt_of_lt_of_le (h.rest.grpT a ha).1 hf.size))
  have HM := Lib.hid (And.intro hm (show S.cfg.sys.groups.length ≤ 140737488351232 by omega))
  have HP := Lib.hid (fun (w' : World) (hf : Fr (fun _ => False) w w') => (show Calls Tryz.prog 106 #[.agg #[.int .i64 S.cfg.inst, .int .i64 r.seq, .int .i64 water, .int .i64 S.cfg.sys.stamp, .string S.cfg.sys.machine, .int .i64 S.cfg.sys.user, .int .i64 S.cfg.sys.group, .slice S.A S.cfg.sys.groups.length S.n]] w' _ from PrintMark_any (markOf S r water) S.A S.n w' (HI.out _ hf) (HE.out _ hf) (HD.out _ hf) HM.out.1 HM.out.2))
  have HQ : Hid (∀ (w' : World) (hf : Fr (fun _ => False) w w'), Calls Tryz.prog 107 #[.agg #[.int .i64 r.seq, .int .i64 2, .int .i64 r.prog, .int .i64 r.vers, .int .i64 r.proc, .int .i64 (printMarkM (markOf S r water)).1, .string (printMarkM (markOf S r water)).2.1, .int .i64 0, .string ByteArray.empty, .string r.args]] w' fun e w2 => e = .returned (.tuple #[.string (requestM S r water), .int .i64 (printCallM ⟨r.seq, 2, r.prog, r.vers, r.proc, ⟨(printMarkM (markOf S r water)).1, (printMarkM (markOf S r water)).2.1⟩, ⟨0, ByteArray.empty⟩, r.args⟩).2]) ∧ Fr (fun _ => False) w' w2) :=
    Lib.hid (fun w' hf => PrintCall_any ⟨r.seq, 2, r.prog, r.vers, r.proc, ⟨(printMarkM (markOf S r water)).1, (printMarkM (markOf S r water)).2.1⟩, ⟨0, ByteArray.empty⟩, r.args⟩ w' (HE.out _ hf) (printMark_size _) (Nat.zero_le _) ha)
  clear h hr hg hm hgl HI HD HM ha
  show Calls _ _ #[.int .i64 water, .pointer (some ⟨r.qc, 0, none⟩), .pointer (some ⟨r.qs, 0, none⟩), .pointer (some ⟨r.qp, 0, none⟩), .pointer (some ⟨r.qv, 0, none⟩), .pointer (some ⟨r.qr, 0, none⟩), .pointer (some ⟨r.qa, 0, none⟩), .pointer (some ⟨r.qt, 0, none⟩)] _ _
  go_enter Tryz.func105, Tryz.ntmps105
  go_wp2_with fail
  go_region_held3 (fun w' => w'.cell? ⟨r.qc, 0, none⟩ = some (.pointer (some ⟨b, 0, none⟩)) ∧ w'.cell? ⟨b, 1, none⟩ = some (.int .i64 S.cfg.inst) ∧ w'.cell? ⟨r.qs, 0, none⟩ = some (.int .i64 r.seq) ∧ w'.cell? ⟨b, 7, none⟩ = some (.int .i64 S.cfg.sys.stamp) ∧ w'.cell? ⟨b, 8, none⟩ = some (.string S.cfg.sys.machine) ∧ w'.cell? ⟨b, 9, none⟩ = some (.int .i64 S.cfg.sys.user) ∧ w'.cell? ⟨b, 10, none⟩ = some (.int .i64 S.cfg.sys.group) ∧ w'.cell? ⟨b, 11, none⟩ = some (.slice S.A S.cfg.sys.groups.length S.n))
    (first
      | go_keep
      | exact ⟨kc, m1, ks, m7, m8, m9, m10, m11⟩
      | (refine ⟨?_, ?_, ?_, ?_, ?_, ?_, ?_, ?_⟩ <;> (rw [World.cell?_setCell_far _ _ _ _ (by simp; omega), World.cell?_setCell_far _ _ _ _ (by simp; omega)]; assumption)))
    (first
      | (go_at_call 106; refine (HP.out _ (((Fr.refl (fun _ => False) w).alloc (.cells #[.int .i64 0, .int .i64 0, .string ByteArray.empty] 78)).drew)).mono ?_; rintro e w2 ⟨rfl, hf2⟩; have hF : Fr (fun _ => False) w w2 := (((Fr.refl (fun _ => False) w).alloc (.cells #[.int .i64 0, .int .i64 0, .string ByteArray.empty] 78)).drew).trans hf2; have hxP : w2.heap[w.heap.size]? = some (.cells #[.int .i64 0, .int .i64 0, .string ByteArray.empty] 78 (0, 0)) := (hf2.block _ (by simp) id).trans (heap_alloc_new w _); have kk : ∀ (a : Addr) v, w.cell? a = some v → w2.cell? a = some v := fun a v hc => (World.cell?_of_block (w := w) (hF.block _ (World.block_lt_of_cell? _ _ hc) id)).trans hc; have kc := kk _ _ xc; have ks := kk _ _ xs; have kp := kk _ _ xp; have kv := kk _ _ xv; have ky := kk _ _ xy; have ka := kk _ _ xa; have kt := kk _ _ xt; have m0 := kk _ _ n0; have m1 := kk _ _ n1; have m7 := kk _ _ n7; have m8 := kk _ _ n8; have m9 := kk _ _ n9; have m10 := kk _ _ n10; have m11 := kk _ _ n11; clear kk hf2)
      | (go_at_call 106; refine (HP.out _ ((((Fr.refl (fun _ => False) w).alloc (.cells #[.int .i64 0, .int .i64 0, .string ByteArray.empty] 78)).alloc (.cells #[.int .i64 0, .string ByteArray.empty] 122)).drew)).mono ?_; rintro e w2 ⟨rfl, hf2⟩; have hF : Fr (fun _ => False) w w2 := ((((Fr.refl (fun _ => False) w).alloc (.cells #[.int .i64 0, .int .i64 0, .string ByteArray.empty] 78)).alloc (.cells #[.int .i64 0, .string ByteArray.empty] 122)).drew).trans hf2; have hxP : w2.heap[w.heap.size]? = some (.cells #[.int .i64 0, .int .i64 0, .string ByteArray.empty] 78 (0, 0)) := (hf2.block _ (by simp; omega) id).trans (heap_old (heap_alloc_new w _)); have hxA : w2.heap[w.heap.size + 1]? = some (.cells #[.int .i64 0, .string ByteArray.empty] 122 (0, 0)) := (hf2.block _ (by simp) id).trans (heap_two (w := w)); have a0 := cellOf hxA 0; have a1 := cellOf hxA 1; have fa0 := freeOf hxA 0; have fa1 := freeOf hxA 1; have kk : ∀ (a : Addr) v, w.cell? a = some v → w2.cell? a = some v := fun a v hc => (World.cell?_of_block (w := w) (hF.block _ (World.block_lt_of_cell? _ _ hc) id)).trans hc; have kc := kk _ _ xc; have ks := kk _ _ xs; have kp := kk _ _ xp; have kv := kk _ _ xv; have ky := kk _ _ xy; have ka := kk _ _ xa; have kt := kk _ _ xt; have m0 := kk _ _ n0; have m1 := kk _ _ n1; have m7 := kk _ _ n7; have m8 := kk _ _ n8; have m9 := kk _ _ n9; have m10 := kk _ _ n10; have m11 := kk _ _ n11; clear kk hf2))
  all_goals (
    clear kc ks kp kv ky ka kt m0 m1 m7 m8 m9 m10 m11
    first
      | (have hW : Fr (fun _ => False) w ((w2.setCell ⟨w.heap.size + 1, 0, none⟩ (.int .i64 (printMarkM (markOf S r water)).1)).setCell ⟨w.heap.size + 1, 1, none⟩ (.string (printMarkM (markOf S r water)).2.1)) := (hF.setCell (.inr (by simp)) _).setCell (.inr (by simp)) _
         have hB : ((w2.setCell ⟨w.heap.size + 1, 0, none⟩ (.int .i64 (printMarkM (markOf S r water)).1)).setCell ⟨w.heap.size + 1, 1, none⟩ (.string (printMarkM (markOf S r water)).2.1)).heap[w.heap.size + 1]? = some (.cells #[.int .i64 (printMarkM (markOf S r water)).1, .string (printMarkM (markOf S r water)).2.1] 122) := (setOf' (setOf' hxA 0 _) 1 _).trans rfl
         have hP3 : ((w2.setCell ⟨w.heap.size + 1, 0, none⟩ (.int .i64 (printMarkM (markOf S r water)).1)).setCell ⟨w.heap.size + 1, 1, none⟩ (.string (printMarkM (markOf S r water)).2.1)).heap[w.heap.size]? = some (.cells #[.int .i64 0, .int .i64 0, .string ByteArray.empty] 78 (0, 0)) := (Below.heap_setCell _ _ _ _ (by simp)).trans ((Below.heap_setCell _ _ _ _ (by simp)).trans hxP)
         clear hxP hxA a0 a1 fa0 fa1
         generalize ((w2.setCell ⟨w.heap.size + 1, 0, none⟩ (.int .i64 (printMarkM (markOf S r water)).1)).setCell ⟨w.heap.size + 1, 1, none⟩ (.string (printMarkM (markOf S r water)).2.1)) = w3 at *)
      | (have hW : Fr (fun _ => False) w (w2.alloc (.cells #[.int .i64 (printMarkM (markOf S r water)).1, .string (printMarkM (markOf S r water)).2.1] 122)) := hF.alloc _
         have hB := heap_alloc_new w2 (.cells #[.int .i64 (printMarkM (markOf S r water)).1, .string (printMarkM (markOf S r water)).2.1] 122)
         have hP3 := heap_old (o := (.cells #[.int .i64 (printMarkM (markOf S r water)).1, .string (printMarkM (markOf S r water)).2.1] 122)) hxP
         clear hxP
         generalize w2.alloc (.cells #[.int .i64 (printMarkM (markOf S r water)).1, .string (printMarkM (markOf S r water)).2.1] 122) = w3 at *)
    clear hF
    have kk : ∀ (a : Addr) v, w.cell? a = some v → w3.cell? a = some v := fun a v hc => (World.cell?_of_block (w := w) (hW.block _ (World.block_lt_of_cell? _ _ hc) id)).trans hc
    have ks := kk _ _ xs
    have kp := kk _ _ xp
    have kv := kk _ _ xv
    have ky := kk _ _ xy
    have ka := kk _ _ xa
    clear kk
    have a0 := cellOf hB 0
    have a1 := cellOf hB 1
    clear hB
    have HW := Lib.hid hW
    have HP3 := Lib.hid hP3
    clear hW hP3
    go_wp2_with fail
    refine (HQ.out _ HW.out).mono ?_
    rintro e w4 ⟨rfl, hf4⟩
    clear ks kp kv ky ka a0 a1
    have hW := HW.out.trans hf4
    have hP4 := (hf4.block _ (lt_of_block HP3.out) id).trans HP3.out
    have kk : ∀ (a : Addr) v, w.cell? a = some v → w4.cell? a = some v := fun a v hc => (World.cell?_of_block (w := w) (hW.block _ (World.block_lt_of_cell? _ _ hc) id)).trans hc
    have kc := kk _ _ xc
    have kt := kk _ _ xt
    have m0 := kk _ _ n0
    clear kk hf4
    have p0 : w4.cell? ⟨w.heap.size, 0, none⟩ = some (.int .i64 0) := cellOf hP4 0
    have p1 : w4.cell? ⟨w.heap.size, 1, none⟩ = some (.int .i64 0) := cellOf hP4 1
    have p2 : w4.cell? ⟨w.heap.size, 2, none⟩ = some (.string ByteArray.empty) := cellOf hP4 2
    have f0 := freeOf hP4 0
    have f1 := freeOf hP4 1
    have f2 := freeOf hP4 2
    have HW4 := Lib.hid hW
    have hz4 : w.heap.size < w4.heap.size := lt_of_block hP4
    clear hW hP4 xc xs xp xv xy xa xt n0 n1 n7 n8 n9 n10 n11 HW HP3
    go_wp2_with fail
    go_region
    go_wp2
    refine bodyPost_ret (v := .agg #[.int .i64 S.cfg.addr, .int .i64 r.dst, .string (requestM S r water)]) ?_ rfl ⟨rfl, ?_⟩
    · simp [results, Tryz.results105, go_sem, p0, p1, p2, hz4]
    · first
        | exact (((HW4.out.setCell (.inr (Nat.le_refl _)) _).setCell (.inr (Nat.le_refl _)) _).setCell (.inr (Nat.le_refl _)) _).drew
        | exact (((HW4.out.drew.setCell (.inr (Nat.le_refl _)) _).setCell (.inr (Nat.le_refl _)) _).setCell (.inr (Nat.le_refl _)) _)
        | exact (((HW4.out.setCell (.inr (Nat.le_refl _)) _).setCell (.inr (Nat.le_refl _)) _).setCell (.inr (Nat.le_refl _)) _))
end Go.Proofs.YtlcjfafmmoncpaaGreatDoor
