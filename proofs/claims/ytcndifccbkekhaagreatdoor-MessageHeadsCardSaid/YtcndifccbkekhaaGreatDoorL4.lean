/- callboxlaw12: any text read both ways; texts with another byte. -/
import Derived.Test.YtcndifccbkekhaaGreatDoorL1
import Derived.Test.YtcndifccbkekhaaGreatDoorRs
import Derived.Test.YtcndifccbkekhaaGreatDoorRr
import Derived.Laws.StructEq
import Derived.Laws.IdiomStrings
import Derived.Lib.SlBytesRow
namespace Go.Proofs.YtcndifccbkekhaaGreatDoor
open Go.RowKit
set_option linter.unusedVariables false
set_option linter.unusedSimpArgs false

set_option maxRecDepth 100000 in
set_option maxHeartbeats 8000000 in
theorem reads12_any (s : ByteArray) (w : World) (hg : ErrT w) (hs : s.size ≤ 140737488351232) :
    Calls Tryz.prog 35 #[.string s] w fun r w' => r = .returned (.bool true) ∧ Fr (fun _ => False) w w' := by
  have HG := Lib.hid hg
  have HC := Lib.hid (fun w hg => ParseCall_any s w hg hs)
  have HR := Lib.hid (fun w hg => ParseReply_any s w hg hs)
  have HC2 : Hid (∀ w, Calls Tryz.prog 79 #[.string s] w fun r w' => r = .returned (.tuple #[.agg (callCells (parseCallM s).1), .int .i64 (parseCallM s).2]) ∧ Fr (fun _ => False) w w') := Lib.hid (fun w => by
    have := rParseCall_any s w hs; rwa [parseCall_same] at this)
  have HR2 : Hid (∀ w, Calls Tryz.prog 80 #[.string s] w fun r w' => r = .returned (.tuple #[.agg (replyCells (parseReplyM s).1), .int .i64 (parseReplyM s).2]) ∧ Fr (fun _ => False) w w') := Lib.hid (fun w => by
    have := rParseReply_any s w hs; rwa [parseReply_same] at this)
  generalize parseCallM s = pc at HC HC2
  generalize parseReplyM s = pr at HR HR2
  obtain ⟨c, e1⟩ := pc
  obtain ⟨r, e2⟩ := pr
  clear hg hs
  unfold callCells at HC HC2
  unfold replyCells at HR HR2
  go_enter Tryz.func35, Tryz.ntmps35
  go_wp2_with fail
  refine (HC.out _ HG.out).mono ?_
  rintro e w1 ⟨rfl, hf1⟩
  have hB := ((ABo.start w).stay hf1).more (.cells (callCells c) 25) rfl
  clear hf1
  go_wp2_with fail
  refine (HC2.out _).mono ?_
  rintro e w2 ⟨rfl, hf1⟩
  replace hB := (hB.stay hf1).more (.cells (callCells c) 25) rfl
  clear hf1
  go_wp2_with fail
  refine (HR.out _ (HG.out.fr hB.fr id)).mono ?_
  rintro e w3 ⟨rfl, hf1⟩
  replace hB := (hB.stay hf1).more (.cells (replyCells r) 27) rfl
  clear hf1
  go_wp2_with fail
  refine (HR2.out _).mono ?_
  rintro e w4 ⟨rfl, hf1⟩
  have HB := Lib.hid (hB.stay hf1)
  clear hf1 hB
  obtain ⟨a0, a1, a2, a3, a4, a5, a6, a7, a8, a9⟩ := box10 (Lib.hid (HB.out.at 2 rfl))
  obtain ⟨b0, b1, b2, b3, b4, b5, b6, b7, b8, b9⟩ := box10 (Lib.hid (HB.out.at 1 rfl))
  obtain ⟨c0, c1, c2, c3, c4, c5, c6, c7, c8, c9⟩ := box10 (Lib.hid (HB.out.at 0 rfl))
  have hl1 := lt_of_block (HB.out.at 2 rfl)
  have hl2 := lt_of_block (HB.out.at 1 rfl)
  have hl3 := lt_of_block (HB.out.at 0 rfl)
  go_wp2
  go_ret
  exact ⟨by simp, HB.out.fr.alloc _⟩

end Go.Proofs.YtcndifccbkekhaaGreatDoor

/- callboxlaw12: calls that may be, of raw ones: the whole call. -/
namespace Go.Proofs.YtcndifccbkekhaaGreatDoor
open Go.RowKit
set_option linter.unusedVariables false
set_option linter.unusedSimpArgs false

theorem call_cells10 {w w' : World} {t : Nat} {c : CallM} (h : Hid (w'.heap[w.heap.size]? = some (.cells (callCells c) t (0, 0)))) : w'.cell? ⟨w.heap.size, 0, none⟩ = some (.int .i64 c.xid) ∧ w'.cell? ⟨w.heap.size, 1, none⟩ = some (.int .i64 c.rpc) ∧ w'.cell? ⟨w.heap.size, 2, none⟩ = some (.int .i64 c.prog) ∧ w'.cell? ⟨w.heap.size, 3, none⟩ = some (.int .i64 c.vers) ∧ w'.cell? ⟨w.heap.size, 4, none⟩ = some (.int .i64 c.proc) ∧ w'.cell? ⟨w.heap.size, 5, none⟩ = some (.int .i64 c.cred.flavor) ∧ w'.cell? ⟨w.heap.size, 6, none⟩ = some (.string c.cred.body) ∧ w'.cell? ⟨w.heap.size, 7, none⟩ = some (.int .i64 c.verf.flavor) ∧ w'.cell? ⟨w.heap.size, 8, none⟩ = some (.string c.verf.body) ∧ w'.cell? ⟨w.heap.size, 9, none⟩ = some (.string c.args) := box10 h

theorem set_ten {w : World} {b t : Nat} {c0 c1 c2 c3 c4 c5 c6 c7 c8 c9 v0 v1 v2 v3 v4 v5 v6 v7 v8 v9 : Value} (h : w.heap[b]? = some (.cells #[c0, c1, c2, c3, c4, c5, c6, c7, c8, c9] t (0, 0))) : ((((((((((w.setCell ⟨b, 0, none⟩ v0).setCell ⟨b, 1, none⟩ v1).setCell ⟨b, 2, none⟩ v2).setCell ⟨b, 3, none⟩ v3).setCell ⟨b, 4, none⟩ v4).setCell ⟨b, 5, none⟩ v5).setCell ⟨b, 6, none⟩ v6).setCell ⟨b, 7, none⟩ v7).setCell ⟨b, 8, none⟩ v8).setCell ⟨b, 9, none⟩ v9).heap[b]? = some (.cells #[v0, v1, v2, v3, v4, v5, v6, v7, v8, v9] t (0, 0)) := by
  have h0 : (w.setCell ⟨b, 0, none⟩ v0).heap[b]? = some (.cells #[v0, c1, c2, c3, c4, c5, c6, c7, c8, c9] t (0, 0)) := (setOf' h 0 v0).trans rfl
  have h1 : ((w.setCell ⟨b, 0, none⟩ v0).setCell ⟨b, 1, none⟩ v1).heap[b]? = some (.cells #[v0, v1, c2, c3, c4, c5, c6, c7, c8, c9] t (0, 0)) := (setOf' h0 1 v1).trans rfl
  have h2 : (((w.setCell ⟨b, 0, none⟩ v0).setCell ⟨b, 1, none⟩ v1).setCell ⟨b, 2, none⟩ v2).heap[b]? = some (.cells #[v0, v1, v2, c3, c4, c5, c6, c7, c8, c9] t (0, 0)) := (setOf' h1 2 v2).trans rfl
  have h3 : ((((w.setCell ⟨b, 0, none⟩ v0).setCell ⟨b, 1, none⟩ v1).setCell ⟨b, 2, none⟩ v2).setCell ⟨b, 3, none⟩ v3).heap[b]? = some (.cells #[v0, v1, v2, v3, c4, c5, c6, c7, c8, c9] t (0, 0)) := (setOf' h2 3 v3).trans rfl
  have h4 : (((((w.setCell ⟨b, 0, none⟩ v0).setCell ⟨b, 1, none⟩ v1).setCell ⟨b, 2, none⟩ v2).setCell ⟨b, 3, none⟩ v3).setCell ⟨b, 4, none⟩ v4).heap[b]? = some (.cells #[v0, v1, v2, v3, v4, c5, c6, c7, c8, c9] t (0, 0)) := (setOf' h3 4 v4).trans rfl
  have h5 : ((((((w.setCell ⟨b, 0, none⟩ v0).setCell ⟨b, 1, none⟩ v1).setCell ⟨b, 2, none⟩ v2).setCell ⟨b, 3, none⟩ v3).setCell ⟨b, 4, none⟩ v4).setCell ⟨b, 5, none⟩ v5).heap[b]? = some (.cells #[v0, v1, v2, v3, v4, v5, c6, c7, c8, c9] t (0, 0)) := (setOf' h4 5 v5).trans rfl
  have h6 : (((((((w.setCell ⟨b, 0, none⟩ v0).setCell ⟨b, 1, none⟩ v1).setCell ⟨b, 2, none⟩ v2).setCell ⟨b, 3, none⟩ v3).setCell ⟨b, 4, none⟩ v4).setCell ⟨b, 5, none⟩ v5).setCell ⟨b, 6, none⟩ v6).heap[b]? = some (.cells #[v0, v1, v2, v3, v4, v5, v6, c7, c8, c9] t (0, 0)) := (setOf' h5 6 v6).trans rfl
  have h7 : ((((((((w.setCell ⟨b, 0, none⟩ v0).setCell ⟨b, 1, none⟩ v1).setCell ⟨b, 2, none⟩ v2).setCell ⟨b, 3, none⟩ v3).setCell ⟨b, 4, none⟩ v4).setCell ⟨b, 5, none⟩ v5).setCell ⟨b, 6, none⟩ v6).setCell ⟨b, 7, none⟩ v7).heap[b]? = some (.cells #[v0, v1, v2, v3, v4, v5, v6, v7, c8, c9] t (0, 0)) := (setOf' h6 7 v7).trans rfl
  have h8 : (((((((((w.setCell ⟨b, 0, none⟩ v0).setCell ⟨b, 1, none⟩ v1).setCell ⟨b, 2, none⟩ v2).setCell ⟨b, 3, none⟩ v3).setCell ⟨b, 4, none⟩ v4).setCell ⟨b, 5, none⟩ v5).setCell ⟨b, 6, none⟩ v6).setCell ⟨b, 7, none⟩ v7).setCell ⟨b, 8, none⟩ v8).heap[b]? = some (.cells #[v0, v1, v2, v3, v4, v5, v6, v7, v8, c9] t (0, 0)) := (setOf' h7 8 v8).trans rfl
  have h9 : ((((((((((w.setCell ⟨b, 0, none⟩ v0).setCell ⟨b, 1, none⟩ v1).setCell ⟨b, 2, none⟩ v2).setCell ⟨b, 3, none⟩ v3).setCell ⟨b, 4, none⟩ v4).setCell ⟨b, 5, none⟩ v5).setCell ⟨b, 6, none⟩ v6).setCell ⟨b, 7, none⟩ v7).setCell ⟨b, 8, none⟩ v8).setCell ⟨b, 9, none⟩ v9).heap[b]? = some (.cells #[v0, v1, v2, v3, v4, v5, v6, v7, v8, v9] t (0, 0)) := (setOf' h8 9 v9).trans rfl
  exact h9
theorem Fr.set_ten {S : Nat → Prop} {a w : World} {b : Nat} {v0 v1 v2 v3 v4 v5 v6 v7 v8 v9 : Value} (h : Fr S a w) (hb : S b ∨ a.heap.size ≤ b) : Fr S a ((((((((((w.setCell ⟨b, 0, none⟩ v0).setCell ⟨b, 1, none⟩ v1).setCell ⟨b, 2, none⟩ v2).setCell ⟨b, 3, none⟩ v3).setCell ⟨b, 4, none⟩ v4).setCell ⟨b, 5, none⟩ v5).setCell ⟨b, 6, none⟩ v6).setCell ⟨b, 7, none⟩ v7).setCell ⟨b, 8, none⟩ v8).setCell ⟨b, 9, none⟩ v9) :=
  ((((((((((h.setCell (p := ⟨b, 0, none⟩) hb v0).setCell (p := ⟨b, 1, none⟩) hb v1).setCell (p := ⟨b, 2, none⟩) hb v2).setCell (p := ⟨b, 3, none⟩) hb v3).setCell (p := ⟨b, 4, none⟩) hb v4).setCell (p := ⟨b, 5, none⟩) hb v5).setCell (p := ⟨b, 6, none⟩) hb v6).setCell (p := ⟨b, 7, none⟩) hb v7).setCell (p := ⟨b, 8, none⟩) hb v8).setCell (p := ⟨b, 9, none⟩) hb v9)

set_option maxRecDepth 100000 in
set_option maxHeartbeats 16000000 in
theorem fitted_any (c : CallM) (w : World) (hi : CallI c) (h1 : c.cred.body.size ≤ 140737488351232) (h2 : c.verf.body.size ≤ 140737488351232) (h3 : c.args.size ≤ 140737488351232) :
    Calls Tryz.prog 36 #[.agg (callCells c)] w fun r w' => r = .returned (.agg (callCells (fittedM c))) ∧ Fr (fun _ => False) w w' := by
  have PG : Hid (∀ (n : Int) (w : World), InI n → Calls Tryz.prog 39 #[.int .i64 n, .int .i64 4294967296] w fun r w' => r = .returned (.int .i64 (pickM n 4294967296)) ∧ w = w') := Lib.hid (fun n w hn => pick_any n 4294967296 w hn (by decide) (by decide))
  have AG : Hid (∀ (f : Int) (b : ByteArray) (w : World), InI f → b.size ≤ 140737488351232 → Calls Tryz.prog 81 #[.agg #[.int .i64 f, .string b]] w fun r w' => r = .returned (.agg #[.int .i64 (authPM ⟨f, b⟩).flavor, .string (authPM ⟨f, b⟩).body]) ∧ Fr (fun _ => False) w w') := Lib.hid (fun f b w hf hb => auth12_any ⟨f, b⟩ w hf hb)
  have F7 := Lib.hid (fun w => four_any c.args w h3)
  have i0 := hi.xid
  have i2 := hi.prog
  have i3 := hi.vers
  have i4 := hi.proc
  have i5 := hi.cred
  have i6 := hi.verf
  clear h3 hi
  go_enter Tryz.func36, Tryz.ntmps36
  go_upto_region 1 with fail
  generalize hW : World.alloc (World.alloc w _) _ = W
  have hx := Lib.hid (show W.heap[w.heap.size]? = some (.cells (callCells c) 25 (0, 0)) by rw [← hW]; exact heap_old (heap_alloc_new w _))
  have hz := Lib.hid (show W.heap[w.heap.size + 1]? = some (.cells (callCells zeroCall) 25 (0, 0)) by rw [← hW]; exact heap_two)
  have HF2 := Lib.hid (show Fr (fun _ => False) w W by rw [← hW]; exact ((Fr.refl _ _).alloc _).alloc _)
  clear hW
  unfold callCells at *
  obtain ⟨a0, a1, a2, a3, a4, a5, a6, a7, a8, a9⟩ := box10 hx
  go_region_held3 (fun w' => w'.cell? ⟨w.heap.size, 0, none⟩ = some (.int .i64 c.xid) ∧ w'.cell? ⟨w.heap.size, 1, none⟩ = some (.int .i64 c.rpc) ∧ w'.cell? ⟨w.heap.size, 2, none⟩ = some (.int .i64 c.prog) ∧ w'.cell? ⟨w.heap.size, 3, none⟩ = some (.int .i64 c.vers) ∧ w'.cell? ⟨w.heap.size, 4, none⟩ = some (.int .i64 c.proc) ∧ w'.cell? ⟨w.heap.size, 5, none⟩ = some (.int .i64 c.cred.flavor) ∧ w'.cell? ⟨w.heap.size, 6, none⟩ = some (.string c.cred.body) ∧ w'.cell? ⟨w.heap.size, 7, none⟩ = some (.int .i64 c.verf.flavor) ∧ w'.cell? ⟨w.heap.size, 8, none⟩ = some (.string c.verf.body) ∧ w'.cell? ⟨w.heap.size, 9, none⟩ = some (.string c.args)) (go_keep) (first
    | (go_at_call 39; refine (PG.out _ _ (by assumption)).mono ?_; rintro e w4 ⟨rfl, rfl⟩)
    | (go_at_call 81; refine (AG.out _ _ _ (by assumption) (by assumption)).mono ?_; rintro e w4 ⟨rfl, hf4⟩; (try have hf4 := Fr.ofDrewR hf4); have hx := hidMove hx hf4 id; have hz := hidMove hz hf4 id; have HF2 := Lib.hid (HF2.out.trans hf4); obtain ⟨a0, a1, a2, a3, a4, a5, a6, a7, a8, a9⟩ := box10 hx; obtain ⟨z0, z1, z2, z3, z4, z5, z6, z7, z8, z9⟩ := box10 hz; have hz0 := freeOf hz.out 0; have hz1 := freeOf hz.out 1; have hz2 := freeOf hz.out 2; have hz3 := freeOf hz.out 3; have hz4 := freeOf hz.out 4; have hz5 := freeOf hz.out 5; have hz6 := freeOf hz.out 6; have hz7 := freeOf hz.out 7; have hz8 := freeOf hz.out 8; have hz9 := freeOf hz.out 9)
    | (go_at_call 42; refine (F7.out _).mono ?_; rintro e w4 ⟨rfl, rfl⟩))
  clear hx a0 a1 a2 a3 a4 a5 a6 a7 a8 a9 z0 z1 z2 z3 z4 z5 z6 z7 z8 z9 hz0 hz1 hz2 hz3 hz4 hz5 hz6 hz7 hz8 hz9 PG AG F7 i0 i2 i3 i4 i5 i6
  rename_i hHeld
  clear hHeld
  have HZ := Lib.hid (set_ten (v0 := (.int .i64 (pickM c.xid 4294967296))) (v1 := (.int .i64 2)) (v2 := (.int .i64 (pickM c.prog 4294967296))) (v3 := (.int .i64 (pickM c.vers 4294967296))) (v4 := (.int .i64 (pickM c.proc 4294967296))) (v5 := (.int .i64 (authPM ⟨c.cred.flavor, c.cred.body⟩).flavor)) (v6 := (.string (authPM ⟨c.cred.flavor, c.cred.body⟩).body)) (v7 := (.int .i64 (authPM ⟨c.verf.flavor, c.verf.body⟩).flavor)) (v8 := (.string (authPM ⟨c.verf.flavor, c.verf.body⟩).body)) (v9 := (.string (fourM c.args))) hz.out)
  have HFF := Lib.hid (Fr.set_ten (b := w.heap.size + 1) (v0 := (.int .i64 (pickM c.xid 4294967296))) (v1 := (.int .i64 2)) (v2 := (.int .i64 (pickM c.prog 4294967296))) (v3 := (.int .i64 (pickM c.vers 4294967296))) (v4 := (.int .i64 (pickM c.proc 4294967296))) (v5 := (.int .i64 (authPM ⟨c.cred.flavor, c.cred.body⟩).flavor)) (v6 := (.string (authPM ⟨c.cred.flavor, c.cred.body⟩).body)) (v7 := (.int .i64 (authPM ⟨c.verf.flavor, c.verf.body⟩).flavor)) (v8 := (.string (authPM ⟨c.verf.flavor, c.verf.body⟩).body)) (v9 := (.string (fourM c.args))) HF2.out (.inr (Nat.le_succ _)))
  clear hz HF2
  generalize ((((((((((w4.setCell ⟨w.heap.size + 1, 0, none⟩ (.int .i64 (pickM c.xid 4294967296))).setCell ⟨w.heap.size + 1, 1, none⟩ (.int .i64 2)).setCell ⟨w.heap.size + 1, 2, none⟩ (.int .i64 (pickM c.prog 4294967296))).setCell ⟨w.heap.size + 1, 3, none⟩ (.int .i64 (pickM c.vers 4294967296))).setCell ⟨w.heap.size + 1, 4, none⟩ (.int .i64 (pickM c.proc 4294967296))).setCell ⟨w.heap.size + 1, 5, none⟩ (.int .i64 (authPM ⟨c.cred.flavor, c.cred.body⟩).flavor)).setCell ⟨w.heap.size + 1, 6, none⟩ (.string (authPM ⟨c.cred.flavor, c.cred.body⟩).body)).setCell ⟨w.heap.size + 1, 7, none⟩ (.int .i64 (authPM ⟨c.verf.flavor, c.verf.body⟩).flavor)).setCell ⟨w.heap.size + 1, 8, none⟩ (.string (authPM ⟨c.verf.flavor, c.verf.body⟩).body)).setCell ⟨w.heap.size + 1, 9, none⟩ (.string (fourM c.args))) = v at HZ HFF ⊢
  go_wp2
  exact bodyPost_ret (results_cell_row rfl _ _ _ _ _ _ _ rfl HZ.out Tryz.underlying25 rfl (by kernel_rfl)) rfl ⟨rfl, HFF.out⟩
end Go.Proofs.YtcndifccbkekhaaGreatDoor
