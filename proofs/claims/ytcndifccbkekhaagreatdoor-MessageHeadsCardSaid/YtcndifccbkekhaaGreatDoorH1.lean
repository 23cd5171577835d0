/- callboxlaw12.MessageHeads, walked. -/
import Derived.Test.YtcndifccbkekhaaGreatDoorL2
import Derived.Test.YtcndifccbkekhaaGreatDoorL4
import Derived.Test.YtcndifccbkekhaaGreatDoorH0
import Derived.Test.YtcndifccbkekhaaGreatDoorKn
import Derived.Test.YtcndifccbkekhaaGreatDoorPr
import Derived.Test.YtcndifccbkekhaaGreatDoorMq
import Derived.Laws.StructEq
namespace Go.Proofs.YtcndifccbkekhaaGreatDoor
open Go.RowKit
set_option linter.unusedVariables false
set_option linter.unusedSimpArgs false

theorem word_I {n : Int} (h : isWordB n = true) : InI n := by
  have := isWordB_iff.1 h; unfold InI; omega
theorem head_I (r : ReplyM) : ReplyI ⟨(toldM r).xid, false, (toldM r).verf, 0, 0, 0, 0, 0, ByteArray.empty⟩ := by
  have h := (replyMay_iff.1 (told_may r)).2
  have z : InI 0 := by unfold InI; omega
  exact ⟨word_I h.1, word_I (authMay_iff.1 h.2.1).1, z, z, z, z, z⟩
theorem conv_four (n : Int) (h : isWordB n = true) (w : World) : (convert 76 9 (.slice (some ⟨w.heap.size, 0, none⟩) 4 4)).run Tryz.prog (w.alloc (.cells #[.int .u8 (n / 16777216), .int .u8 (n / 65536 % 256), .int .u8 (n / 256 % 256), .int .u8 (n % 256)] 5 (0, 0))) = .ok (.string (numStr n 4)) (w.alloc (.cells #[.int .u8 (n / 16777216), .int .u8 (n / 65536 % 256), .int .u8 (n / 256 % 256), .int .u8 (n % 256)] 5 (0, 0))) := by
  have hw := isWordB_iff.1 h
  have e : numInts n 4 4 = [n / 16777216, n / 65536 % 256, n / 256 % 256, n % 256] := by
    have h1 : n / 16777216 % 256 = n / 16777216 := by omega
    have h2 : numInts n 4 4 = [n / 16777216 % 256, n / 65536 % 256, n / 256 % 256, n / 1 % 256] := rfl
    rw [h2, h1, Int.ediv_one]
  unfold numStr
  rw [e, run_convert_bytes_string _ 76 9 5 _ _ _ Tryz.underlying76 Tryz.underlying5 Tryz.underlying9]
  refine run_bytesToString _ _ _ _ [n / 16777216, n / 65536 % 256, n / 256 % 256, n % 256] ?_
  have hb := heap_alloc_new w (.cells #[.int .u8 (n / 16777216), .int .u8 (n / 65536 % 256), .int .u8 (n / 256 % 256), .int .u8 (n % 256)] 5 (0, 0))
  exact run_loadCells_list (P := Tryz.prog) _ ⟨w.heap.size, 0, none⟩ [.int .u8 (n / 16777216), .int .u8 (n / 65536 % 256), .int .u8 (n / 256 % 256), .int .u8 (n % 256)] (fun k v hk => by
    have ea : (⟨w.heap.size, 0, none⟩ : Addr).add k = ⟨w.heap.size, k, none⟩ := by unfold Addr.add; split <;> simp_all
    rw [ea, cellOf hb k, ← Array.getElem?_toList]
    exact hk)
theorem ABo.put_ten {w0 w : World} {B : List (Nat × Obj)} {C T : Nat} {c0 c1 c2 c3 c4 c5 c6 c7 c8 c9 v0 v1 v2 v3 v4 v5 v6 v7 v8 v9 : Value} (h : ABo w0 ((C, .cells #[c0, c1, c2, c3, c4, c5, c6, c7, c8, c9] T (0, 0)) :: B) w) (hd : ∀ p ∈ B, p.1 ≠ C) :
    ABo w0 ((C, .cells #[v0, v1, v2, v3, v4, v5, v6, v7, v8, v9] T (0, 0)) :: B) ((((((((((w.setCell ⟨C, 0, none⟩ v0).setCell ⟨C, 1, none⟩ v1).setCell ⟨C, 2, none⟩ v2).setCell ⟨C, 3, none⟩ v3).setCell ⟨C, 4, none⟩ v4).setCell ⟨C, 5, none⟩ v5).setCell ⟨C, 6, none⟩ v6).setCell ⟨C, 7, none⟩ v7).setCell ⟨C, 8, none⟩ v8).setCell ⟨C, 9, none⟩ v9) := by
  have h0 : ABo w0 ((C, .cells #[v0, c1, c2, c3, c4, c5, c6, c7, c8, c9] T (0, 0)) :: B) (w.setCell ⟨C, 0, none⟩ v0) := ABo.put (B1 := []) h hd 0 v0
  have h1 : ABo w0 ((C, .cells #[v0, v1, c2, c3, c4, c5, c6, c7, c8, c9] T (0, 0)) :: B) ((w.setCell ⟨C, 0, none⟩ v0).setCell ⟨C, 1, none⟩ v1) := ABo.put (B1 := []) h0 hd 1 v1
  have h2 : ABo w0 ((C, .cells #[v0, v1, v2, c3, c4, c5, c6, c7, c8, c9] T (0, 0)) :: B) (((w.setCell ⟨C, 0, none⟩ v0).setCell ⟨C, 1, none⟩ v1).setCell ⟨C, 2, none⟩ v2) := ABo.put (B1 := []) h1 hd 2 v2
  have h3 : ABo w0 ((C, .cells #[v0, v1, v2, v3, c4, c5, c6, c7, c8, c9] T (0, 0)) :: B) ((((w.setCell ⟨C, 0, none⟩ v0).setCell ⟨C, 1, none⟩ v1).setCell ⟨C, 2, none⟩ v2).setCell ⟨C, 3, none⟩ v3) := ABo.put (B1 := []) h2 hd 3 v3
  have h4 : ABo w0 ((C, .cells #[v0, v1, v2, v3, v4, c5, c6, c7, c8, c9] T (0, 0)) :: B) (((((w.setCell ⟨C, 0, none⟩ v0).setCell ⟨C, 1, none⟩ v1).setCell ⟨C, 2, none⟩ v2).setCell ⟨C, 3, none⟩ v3).setCell ⟨C, 4, none⟩ v4) := ABo.put (B1 := []) h3 hd 4 v4
  have h5 : ABo w0 ((C, .cells #[v0, v1, v2, v3, v4, v5, c6, c7, c8, c9] T (0, 0)) :: B) ((((((w.setCell ⟨C, 0, none⟩ v0).setCell ⟨C, 1, none⟩ v1).setCell ⟨C, 2, none⟩ v2).setCell ⟨C, 3, none⟩ v3).setCell ⟨C, 4, none⟩ v4).setCell ⟨C, 5, none⟩ v5) := ABo.put (B1 := []) h4 hd 5 v5
  have h6 : ABo w0 ((C, .cells #[v0, v1, v2, v3, v4, v5, v6, c7, c8, c9] T (0, 0)) :: B) (((((((w.setCell ⟨C, 0, none⟩ v0).setCell ⟨C, 1, none⟩ v1).setCell ⟨C, 2, none⟩ v2).setCell ⟨C, 3, none⟩ v3).setCell ⟨C, 4, none⟩ v4).setCell ⟨C, 5, none⟩ v5).setCell ⟨C, 6, none⟩ v6) := ABo.put (B1 := []) h5 hd 6 v6
  have h7 : ABo w0 ((C, .cells #[v0, v1, v2, v3, v4, v5, v6, v7, c8, c9] T (0, 0)) :: B) ((((((((w.setCell ⟨C, 0, none⟩ v0).setCell ⟨C, 1, none⟩ v1).setCell ⟨C, 2, none⟩ v2).setCell ⟨C, 3, none⟩ v3).setCell ⟨C, 4, none⟩ v4).setCell ⟨C, 5, none⟩ v5).setCell ⟨C, 6, none⟩ v6).setCell ⟨C, 7, none⟩ v7) := ABo.put (B1 := []) h6 hd 7 v7
  have h8 : ABo w0 ((C, .cells #[v0, v1, v2, v3, v4, v5, v6, v7, v8, c9] T (0, 0)) :: B) (((((((((w.setCell ⟨C, 0, none⟩ v0).setCell ⟨C, 1, none⟩ v1).setCell ⟨C, 2, none⟩ v2).setCell ⟨C, 3, none⟩ v3).setCell ⟨C, 4, none⟩ v4).setCell ⟨C, 5, none⟩ v5).setCell ⟨C, 6, none⟩ v6).setCell ⟨C, 7, none⟩ v7).setCell ⟨C, 8, none⟩ v8) := ABo.put (B1 := []) h7 hd 8 v8
  have h9 : ABo w0 ((C, .cells #[v0, v1, v2, v3, v4, v5, v6, v7, v8, v9] T (0, 0)) :: B) ((((((((((w.setCell ⟨C, 0, none⟩ v0).setCell ⟨C, 1, none⟩ v1).setCell ⟨C, 2, none⟩ v2).setCell ⟨C, 3, none⟩ v3).setCell ⟨C, 4, none⟩ v4).setCell ⟨C, 5, none⟩ v5).setCell ⟨C, 6, none⟩ v6).setCell ⟨C, 7, none⟩ v7).setCell ⟨C, 8, none⟩ v8).setCell ⟨C, 9, none⟩ v9) := ABo.put (B1 := []) h8 hd 9 v9
  exact h9
set_option maxRecDepth 100000 in
set_option maxHeartbeats 16000000 in
theorem MessageHeads_any (c : CallM) (r : ReplyM) (more : ByteArray) (version : Int) (w : World) (hg : ErrT w) (hc : CallI c) (h1 : c.cred.body.size ≤ 140737488351232) (h2 : c.verf.body.size ≤ 140737488351232) (h3 : c.args.size ≤ 140737488351232) (hr : ReplyI r) (h4 : r.verf.body.size ≤ 140737488351232) (h5 : r.results.size ≤ 140737488351232) (hs : more.size ≤ 140737488351232) (hv : InI version) :
    Calls Tryz.prog 10 #[.agg (callCells c), .agg (replyCells r), .string more, .int .i64 version] w fun e w' => e = .returned (.bool true) ∧ Fr (fun _ => False) w w' := by
  have hB : ABo w [(w.heap.size + 1, .cells (replyCells r) 27 (0, 0)), (w.heap.size, .cells (callCells c) 25 (0, 0))] ((w.alloc (.cells (callCells c) 25)).alloc (.cells (replyCells r) 27)) := ((ABo.start w).more _ rfl).more _ (by simp)
  by_cases hl : (more.size : Int) ≤ 2147481647
  case neg =>
    have hl' := Int.not_le.1 hl
    unfold callCells replyCells at *
    go_enter Tryz.func10, Tryz.ntmps10
    go_wp2
    go_ret
    exact ⟨rfl, hB.fr⟩
  have hs2 : more.size ≤ 2147481647 := by omega
  have HG := Lib.hid hg
  have HF := Lib.hid (fun w => fitted_any c w hc h1 h2 h3)
  have HT := Lib.hid (fun w => told12_any r w hr h4 h5)
  have hvb : (toldM r).verf.body.size ≤ 400 := by
    have := (authMay_iff.1 (replyMay_iff.1 (told_may r)).2.2.1).2; omega
  have HT2 := Lib.hid (fun w => (told_head r ByteArray.empty).trans (four_none ▸ rfl : headM r (fourM ByteArray.empty) = headM r ByteArray.empty) ▸ told12_any ⟨(toldM r).xid, false, (toldM r).verf, 0, 0, 0, 0, 0, ByteArray.empty⟩ w (head_I r) (by show (toldM r).verf.body.size ≤ _; omega) (Nat.zero_le _))
  have sx := call_small (call_none_may c)
  have sy := reply_small (head_none_may r)
  have qx := callStr_four (call_none_may c)
  have qy := replyStr_four (head_none_may r)
  have hfs : (fourM more).size ≤ 1000 := by rw [fourM_size]; exact (fourN_le _).2.1
  have HPC := Lib.hid (fun w hg => (printCall_yes (call_none_may c)).1 ▸ PrintCall_any (callWith (fittedM c) ByteArray.empty) w hg sx.1 sx.2.1 sx.2.2)
  have HPR := Lib.hid (fun w hg => (printReply_yes (head_none_may r)).1 ▸ PrintReply_any (headM r ByteArray.empty) w hg sy.1 sy.2)
  have st : (callStr (callWith (fittedM c) ByteArray.empty)).size ≤ 1840 := qx.2.1
  have sg : 24 ≤ (callStr (callWith (fittedM c) ByteArray.empty)).size := qx.2.2
  have su : (replyStr (headM r ByteArray.empty)).size ≤ 1900 := qy.2
  have HCs := Lib.hid (fun w hg => parse_with c more ▸ ParseCall_any (callStr (callWith (fittedM c) ByteArray.empty) ++ fourM more) w hg (by rw [ByteArray.size_append]; omega))
  have HRs := Lib.hid (fun w hg => parse_head r more ▸ ParseReply_any (replyStr (headM r ByteArray.empty) ++ fourM more) w hg (by rw [ByteArray.size_append]; omega))
  have HV : Hid (∀ (n : Int), isWordB n = true → n ≠ 2 → ∀ w, ErrT w → Calls Tryz.prog 40 #[.string ((callStr (callWith (fittedM c) ByteArray.empty)).extract 0 8 ++ numStr n 4 ++ more)] w fun e w' => e = .returned (.tuple #[.agg #[.int .i64 (fittedM c).xid, .int .i64 n, .int .i64 0, .int .i64 0, .int .i64 0, .int .i64 0, .string ByteArray.empty, .int .i64 0, .string ByteArray.empty, .string ByteArray.empty], .int .i64 0]) ∧ Fr (fun _ => False) w w') := Lib.hid (fun n hn h2 w hg => by
    have := ParseCall_any ((callStr (callWith (fittedM c) ByteArray.empty)).extract 0 8 ++ numStr n 4 ++ more) w hg (by rw [ByteArray.size_append, ByteArray.size_append, numStr_size, ByteArray.size_extract]; omega)
    rw [parse_version (call_none_may c) n hn h2 more] at this
    exact this)
  have H4 := Lib.hid (fun w => four_any more w hs)
  have HK := Lib.hid (fun w => pick_any version 4294967296 w hv (by decide) (by decide))
  have hpw := isWordB_iff.1 (pick_word version)
  generalize pickM version 4294967296 = pn at HK hpw
  generalize callStr (callWith (fittedM c) ByteArray.empty) = s at HPC HCs HV st sg
  generalize replyStr (headM r ByteArray.empty) = t at HPR HRs su
  generalize fourM more = m at HCs HRs H4 hfs
  unfold headM callWith at *
  generalize pickM (toldM r).xid 4294967296 = zx at *
  generalize authPM (toldM r).verf = za at *
  generalize toldM r = y at HT HT2
  generalize fittedM c = x at *
  clear sx sy qx qy h1 h2 h3 h4 h5 hg hc hr hv hvb hl hs
  unfold callCells replyCells at *
  dsimp only at HT2 HPR HRs HPC HCs
  go_enter Tryz.func10, Tryz.ntmps10
  go_wp2_with fail
  refine (known12_any _ (HG.out.fr hB.fr id)).mono ?_
  rintro e w1 ⟨rfl, hf1⟩
  replace hB := hB.stay hf1
  clear hf1
  obtain ⟨n0, n1, n2, n3, n4, n5, n6, n7, n8, n9⟩ := box10 (Lib.hid (hB.at 1 rfl))
  go_wp2_with fail
  refine (HF.out _).mono ?_
  rintro e w2 ⟨rfl, hf1⟩
  clear n0 n1 n2 n3 n4 n5 n6 n7 n8 n9
  replace hB := (hB.stay hf1).more (.cells #[.int .i64 x.xid, .int .i64 x.rpc, .int .i64 x.prog, .int .i64 x.vers, .int .i64 x.proc, .int .i64 x.cred.flavor, .string x.cred.body, .int .i64 x.verf.flavor, .string x.verf.body, .string ⟨#[]⟩] 25) rfl
  clear hf1
  obtain ⟨n0, n1, n2, n3, n4, n5, n6, n7, n8, n9⟩ := box10 (Lib.hid (hB.at 1 rfl))
  go_wp2_with fail
  refine (HT.out _).mono ?_
  rintro e w3 ⟨rfl, hf1⟩
  clear n0 n1 n2 n3 n4 n5 n6 n7 n8 n9
  have hlt := lt_of_block ((hB.stay hf1).at 0 rfl)
  replace hB := (hB.stay hf1).more (.cells #[.int .i64 y.xid, .bool false, .int .i64 y.verf.flavor, .string y.verf.body, .int .i64 y.accept, .int .i64 y.reject, .int .i64 y.why, .int .i64 y.low, .int .i64 y.high, .string y.results] 27) rfl
  clear hf1
  go_wp2_with fail
  refine (HT2.out _).mono ?_
  rintro e w4 ⟨rfl, hf1⟩
  replace hB := hB.stay hf1
  clear hf1
  obtain ⟨z0, z1, z2, z3, z4, z5, z6, z7, z8, z9⟩ := box10 (Lib.hid (hB.at 0 rfl))
  have f0 := freeOf (hB.at 0 rfl) 0
  have f1 := freeOf (hB.at 0 rfl) 1
  have f2 := freeOf (hB.at 0 rfl) 2
  have f3 := freeOf (hB.at 0 rfl) 3
  have f4 := freeOf (hB.at 0 rfl) 4
  have f5 := freeOf (hB.at 0 rfl) 5
  have f6 := freeOf (hB.at 0 rfl) 6
  have f7 := freeOf (hB.at 0 rfl) 7
  have f8 := freeOf (hB.at 0 rfl) 8
  have f9 := freeOf (hB.at 0 rfl) 9
  go_upto_region 9 with fail
  clear z0 z1 z2 z3 z4 z5 z6 z7 z8 z9 f0 f1 f2 f3 f4 f5 f6 f7 f8 f9
  replace hB := ABo.put_ten (v0 := (.int .i64 zx)) (v1 := (.bool false)) (v2 := (.int .i64 za.flavor)) (v3 := (.string za.body)) (v4 := (.int .i64 0)) (v5 := (.int .i64 0)) (v6 := (.int .i64 0)) (v7 := (.int .i64 0)) (v8 := (.int .i64 0)) (v9 := (.string ByteArray.empty)) (hB.sub (B' := _ :: [_]) (fun p hp => by rcases List.mem_cons.1 hp with rfl | hp; exact List.mem_cons_self; exact List.mem_cons_of_mem _ (List.mem_singleton.1 hp ▸ List.mem_cons_self))) (fun p hp => by rw [List.mem_singleton.1 hp]; exact Nat.ne_of_lt hlt)
  generalize ((((((((((w4.setCell ⟨w3.heap.size, 0, none⟩ (.int .i64 zx)).setCell ⟨w3.heap.size, 1, none⟩ (.bool false)).setCell ⟨w3.heap.size, 2, none⟩ (.int .i64 za.flavor)).setCell ⟨w3.heap.size, 3, none⟩ (.string za.body)).setCell ⟨w3.heap.size, 4, none⟩ (.int .i64 0)).setCell ⟨w3.heap.size, 5, none⟩ (.int .i64 0)).setCell ⟨w3.heap.size, 6, none⟩ (.int .i64 0)).setCell ⟨w3.heap.size, 7, none⟩ (.int .i64 0)).setCell ⟨w3.heap.size, 8, none⟩ (.int .i64 0)).setCell ⟨w3.heap.size, 9, none⟩ (.string ByteArray.empty)) = v4 at hB ⊢
  have hsm : (s ++ m).size ≤ 2840 := by rw [ByteArray.size_append]; omega
  have htm : (t ++ m).size ≤ 2900 := by rw [ByteArray.size_append]; omega
  clear HF HT HT2
  obtain ⟨n0, n1, n2, n3, n4, n5, n6, n7, n8, n9⟩ := box10 (Lib.hid (hB.at 1 rfl))
  go_wp2_with fail
  refine (HPC.out _ (HG.out.fr hB.fr id)).mono ?_
  rintro e w5 ⟨rfl, hf1⟩
  clear n0 n1 n2 n3 n4 n5 n6 n7 n8 n9
  replace hB := hB.stay hf1
  clear hf1
  obtain ⟨n0, n1, n2, n3, n4, n5, n6, n7, n8, n9⟩ := box10 (Lib.hid (hB.at 0 rfl))
  go_wp2_with fail
  refine (HPR.out _ (HG.out.fr hB.fr id)).mono ?_
  rintro e w6 ⟨rfl, hf1⟩
  clear n0 n1 n2 n3 n4 n5 n6 n7 n8 n9
  replace hB := hB.stay hf1
  clear hf1 HPC HPR
  go_wp2_with fail
  refine (H4.out _).mono ?_
  rintro e w7 ⟨rfl, rfl⟩
  go_wp2_with fail
  refine (HCs.out _ (HG.out.fr hB.fr id)).mono ?_
  rintro e w8 ⟨rfl, hf1⟩
  have hl1 := lt_of_block ((hB.stay hf1).at 0 rfl)
  have hl2 := lt_of_block ((hB.stay hf1).at 1 rfl)
  replace hB := (hB.stay hf1).more (.cells #[.int .i64 x.xid, .int .i64 x.rpc, .int .i64 x.prog, .int .i64 x.vers, .int .i64 x.proc, .int .i64 x.cred.flavor, .string x.cred.body, .int .i64 x.verf.flavor, .string x.verf.body, .string m] 25) rfl
  clear hf1
  go_wp2_with fail
  refine (HRs.out _ (HG.out.fr hB.fr id)).mono ?_
  rintro e w9 ⟨rfl, hf1⟩
  replace hB := hB.stay hf1
  clear hf1 HCs HRs H4
  have l0 := lt_of_block (hB.at 0 rfl)
  have l1 := lt_of_block (hB.at 1 rfl)
  have l2 := lt_of_block (hB.at 2 rfl)
  obtain ⟨y0, y1, y2, y3, y4, y5, y6, y7, y8, y9⟩ := box10 (Lib.hid (hB.at 1 rfl))
  obtain ⟨x0, x1, x2, x3, x4, x5, x6, x7, x8, x9⟩ := box10 (Lib.hid (hB.at 2 rfl))
  have fx := freeOf (hB.at 2 rfl) 9
  have fy := freeOf (hB.at 1 rfl) 9
  go_upto_region 18 with fail
  clear y0 y1 y2 y3 y4 y5 y6 y7 y8 y9 x0 x1 x2 x3 x4 x5 x6 x7 x8 x9 fx fy l0 l1 l2
  have hB1 : ABo w [(w8.heap.size, .cells #[.int .i64 x.xid, .int .i64 x.rpc, .int .i64 x.prog, .int .i64 x.vers, .int .i64 x.proc, .int .i64 x.cred.flavor, .string x.cred.body, .int .i64 x.verf.flavor, .string x.verf.body, .string m] 25 (0, 0)), (w3.heap.size, .cells #[.int .i64 zx, .bool false, .int .i64 za.flavor, .string za.body, .int .i64 0, .int .i64 0, .int .i64 0, .int .i64 0, .int .i64 0, .string ByteArray.empty] 27 (0, 0)), (w2.heap.size, .cells #[.int .i64 x.xid, .int .i64 x.rpc, .int .i64 x.prog, .int .i64 x.vers, .int .i64 x.proc, .int .i64 x.cred.flavor, .string x.cred.body, .int .i64 x.verf.flavor, .string x.verf.body, .string m] 25 (0, 0))] (w9.setCell ⟨w2.heap.size, 9, none⟩ (.string m)) := ABo.put (B1 := [(w8.heap.size, .cells #[.int .i64 x.xid, .int .i64 x.rpc, .int .i64 x.prog, .int .i64 x.vers, .int .i64 x.proc, .int .i64 x.cred.flavor, .string x.cred.body, .int .i64 x.verf.flavor, .string x.verf.body, .string m] 25 (0, 0)), (w3.heap.size, .cells #[.int .i64 zx, .bool false, .int .i64 za.flavor, .string za.body, .int .i64 0, .int .i64 0, .int .i64 0, .int .i64 0, .int .i64 0, .string ByteArray.empty] 27 (0, 0))]) (B2 := []) hB (fun p hp => by
    rcases List.mem_cons.1 hp with rfl | hp
    · exact Nat.ne_of_gt hl2
    · rw [List.mem_singleton.1 hp]; exact Nat.ne_of_gt hlt) 9 _
  have hB2 : ABo w [(w8.heap.size, .cells #[.int .i64 x.xid, .int .i64 x.rpc, .int .i64 x.prog, .int .i64 x.vers, .int .i64 x.proc, .int .i64 x.cred.flavor, .string x.cred.body, .int .i64 x.verf.flavor, .string x.verf.body, .string m] 25 (0, 0)), (w3.heap.size, .cells #[.int .i64 zx, .bool false, .int .i64 za.flavor, .string za.body, .int .i64 0, .int .i64 0, .int .i64 0, .int .i64 0, .int .i64 0, .string m] 27 (0, 0)), (w2.heap.size, .cells #[.int .i64 x.xid, .int .i64 x.rpc, .int .i64 x.prog, .int .i64 x.vers, .int .i64 x.proc, .int .i64 x.cred.flavor, .string x.cred.body, .int .i64 x.verf.flavor, .string x.verf.body, .string m] 25 (0, 0))] ((w9.setCell ⟨w2.heap.size, 9, none⟩ (.string m)).setCell ⟨w3.heap.size, 9, none⟩ (.string m)) := ABo.put (B1 := [(w8.heap.size, .cells #[.int .i64 x.xid, .int .i64 x.rpc, .int .i64 x.prog, .int .i64 x.vers, .int .i64 x.proc, .int .i64 x.cred.flavor, .string x.cred.body, .int .i64 x.verf.flavor, .string x.verf.body, .string m] 25 (0, 0))]) (B2 := [(w2.heap.size, .cells #[.int .i64 x.xid, .int .i64 x.rpc, .int .i64 x.prog, .int .i64 x.vers, .int .i64 x.proc, .int .i64 x.cred.flavor, .string x.cred.body, .int .i64 x.verf.flavor, .string x.verf.body, .string m] 25 (0, 0))]) hB1 (fun p hp => by
    rcases List.mem_cons.1 hp with rfl | hp
    · exact Nat.ne_of_gt hl1
    · rw [List.mem_singleton.1 hp]; exact Nat.ne_of_lt hlt) 9 _
  have hB3 := hB2.more (n := w9.heap.size) (.cells #[.int .i64 zx, .bool false, .int .i64 za.flavor, .string za.body, .int .i64 0, .int .i64 0, .int .i64 0, .int .i64 0, .int .i64 0, .string m] 27) (by simp)
  clear hB hB1 hB2
  generalize ((w9.setCell ⟨w2.heap.size, 9, none⟩ (.string m)).setCell ⟨w3.heap.size, 9, none⟩ (.string m)).alloc (.cells #[.int .i64 zx, .bool false, .int .i64 za.flavor, .string za.body, .int .i64 0, .int .i64 0, .int .i64 0, .int .i64 0, .int .i64 0, .string m] 27) = u at hB3 ⊢
  have hB := hB3
  clear hB3
  obtain ⟨a0, a1, a2, a3, a4, a5, a6, a7, a8, a9⟩ := box10 (Lib.hid (hB.at 0 rfl))
  obtain ⟨b0, b1, b2, b3, b4, b5, b6, b7, b8, b9⟩ := box10 (Lib.hid (hB.at 1 rfl))
  obtain ⟨y0, y1, y2, y3, y4, y5, y6, y7, y8, y9⟩ := box10 (Lib.hid (hB.at 2 rfl))
  obtain ⟨x0, x1, x2, x3, x4, x5, x6, x7, x8, x9⟩ := box10 (Lib.hid (hB.at 3 rfl))
  go_wp2_with fail
  refine (HK.out _).mono ?_
  rintro e u2 ⟨rfl, rfl⟩
  clear HK a0 a1 a2 a3 a4 a5 a6 a7 a8 a9 b0 b1 b2 b3 b4 b5 b6 b7 b8 b9 y0 y1 y2 y3 y4 y5 y6 y7 y8 y9 x0 x1 x2 x3 x4 x5 x6 x7 x8 x9
  replace hB := hB.sub (B' := [(w2.heap.size, .cells #[.int .i64 x.xid, .int .i64 x.rpc, .int .i64 x.prog, .int .i64 x.vers, .int .i64 x.proc, .int .i64 x.cred.flavor, .string x.cred.body, .int .i64 x.verf.flavor, .string x.verf.body, .string m] 25 (0, 0))]) (fun p hp => by rw [List.mem_singleton.1 hp]; simp)
  by_cases h2 : pn = 2
  · subst h2
    have hnw : isWordB 3 = true := rfl
    have hn2 : (3 : Int) ≠ 2 := by decide
    clear hpw
    have hcv := conv_four 3 hnw u
    replace hcv : (convert 76 9 (.slice (some ⟨u.heap.size, 0, none⟩) 4 4)).run Tryz.prog (u.alloc (.cells #[.int .u8 0, .int .u8 0, .int .u8 0, .int .u8 3] 5 (0, 0))) = .ok (.string (numStr 3 4)) (u.alloc (.cells #[.int .u8 0, .int .u8 0, .int .u8 0, .int .u8 3] 5 (0, 0))) := hcv
    have hn4 := numStr_size 3 4
    have he8 : (s.extract 0 8).size = 8 := by rw [ByteArray.size_extract]; omega
    have hsa : (s.extract 0 8 ++ numStr 3 4).size ≤ 12 := by rw [ByteArray.size_append]; omega
    have hsb : (s.extract 0 8 ++ numStr 3 4 ++ more).size ≤ 140737488351232 := by rw [ByteArray.size_append]; omega
    have hC := Lib.hid (HV.out 3 hnw hn2)
    go_wp2_with fail
    refine (hC.out _ (HG.out.fr ((hB.stay ((Fr.refl _ _).alloc _)).fr) id)).mono ?_
    rintro e u3 ⟨rfl, hf1⟩
    replace hB := ((hB.stay ((Fr.refl _ _).alloc _)).stay hf1).more (.cells #[.int .i64 x.xid, .int .i64 3, .int .i64 0, .int .i64 0, .int .i64 0, .int .i64 0, .string ByteArray.empty, .int .i64 0, .string ByteArray.empty, .string ByteArray.empty] 25) rfl
    clear hf1 hcv
    obtain ⟨a0, a1, a2, a3, a4, a5, a6, a7, a8, a9⟩ := box10 (Lib.hid (hB.at 0 rfl))
    obtain ⟨x0, x1, x2, x3, x4, x5, x6, x7, x8, x9⟩ := box10 (Lib.hid (hB.at 1 rfl))
    go_wp2
    go_ret
    exact ⟨by simp, hB.fr⟩
  · have hnw : isWordB pn = true := isWordB_iff.2 hpw
    have hn2 : pn ≠ 2 := h2
    have hcv := conv_four pn hnw u
    have hn4 := numStr_size pn 4
    have he8 : (s.extract 0 8).size = 8 := by rw [ByteArray.size_extract]; omega
    have hsa : (s.extract 0 8 ++ numStr pn 4).size ≤ 12 := by rw [ByteArray.size_append]; omega
    have hsb : (s.extract 0 8 ++ numStr pn 4 ++ more).size ≤ 140737488351232 := by rw [ByteArray.size_append]; omega
    have hC := Lib.hid (HV.out pn hnw hn2)
    go_wp2_with fail
    refine (hC.out _ (HG.out.fr ((hB.stay ((Fr.refl _ _).alloc _)).fr) id)).mono ?_
    rintro e u3 ⟨rfl, hf1⟩
    replace hB := ((hB.stay ((Fr.refl _ _).alloc _)).stay hf1).more (.cells #[.int .i64 x.xid, .int .i64 pn, .int .i64 0, .int .i64 0, .int .i64 0, .int .i64 0, .string ByteArray.empty, .int .i64 0, .string ByteArray.empty, .string ByteArray.empty] 25) rfl
    clear hf1 hcv
    obtain ⟨a0, a1, a2, a3, a4, a5, a6, a7, a8, a9⟩ := box10 (Lib.hid (hB.at 0 rfl))
    obtain ⟨x0, x1, x2, x3, x4, x5, x6, x7, x8, x9⟩ := box10 (Lib.hid (hB.at 1 rfl))
    go_wp2
    go_ret
    exact ⟨by simp, hB.fr⟩
end Go.Proofs.YtcndifccbkekhaaGreatDoor
