/- ClientOnce: one step, walked. -/
import Derived.Test.YtbegjpmifcnieaaGreatDoorQl
import Derived.Test.YtbegjpmifcnieaaGreatDoorQe
import Derived.Test.YtbegjpmifcnieaaGreatDoorMq
import Derived.Test.YtbegjpmifcnieaaGreatDoorEo
import Derived.Deep.CutBlock
import Derived.StillTailTactics
import Derived.IntWalk
import Derived.BigRegion
import Derived.Deep.AppendLies
import Derived.Deep.RegionHeld3
namespace Go.Proofs.YtbegjpmifcnieaaGreatDoor
open Go.RowKit
set_option linter.unusedVariables false
set_option linter.unusedSimpArgs false

/-- the reply that is laid for a number is printed. -/
theorem reply_prints {n : Int} (h0 : 0 ≤ n) (h1 : n ≤ 4294967295) (w : World) (hg : ErrT w) :
    Calls Tryz.prog 80 #[.agg #[.int .i64 n, .bool false, .int .i64 0, .string ByteArray.empty, .int .i64 0, .int .i64 0, .int .i64 0, .int .i64 0, .int .i64 0, .string { data := #[119, 120, 121, 122] }]] w fun e w' => e = .returned (.tuple #[.string (replyStr (replyOf n)), .int .i64 0]) ∧ Fr (fun _ => False) w w' := by
  have hw := word_of h0 h1
  have := PrintReply_any (replyOf n) w hg (Nat.zero_le _) (show wxyz.size ≤ _ by decide)
  rw [replyOf_print hw] at this
  exact this
theorem replyStr_le {r : ReplyM} (h : replyMayB r = true) : (replyStr r).size % 4 = 0 ∧ (replyStr r).size ≤ 1900 := by
  obtain ⟨hs, _, ha, _, _⟩ := replyMay_iff.1 h
  have k1 := authStr_size ha
  have k3 : (shN r).length ≤ 2 := by unfold shN; rw [List.length_map]; exact shO_len r
  have k7 : r.results.size ≤ 1000 ∧ r.results.size % 4 = 0 := by
    rcases hs with ⟨x, l, h, rfl⟩ | ⟨x, y, hy, rfl⟩ | ⟨x, a, s, hs, rfl⟩ | ⟨x, a, l, h, rfl⟩ | ⟨x, a, k, hk, rfl⟩
    · exact ⟨Nat.zero_le 1000, rfl⟩
    · exact ⟨Nat.zero_le 1000, rfl⟩
    · exact fits_iff.1 hs
    · exact ⟨Nat.zero_le 1000, rfl⟩
    · exact ⟨Nat.zero_le 1000, rfl⟩
  unfold replyStr
  rw [ByteArray.size_append, ByteArray.size_append, ByteArray.size_append, wordsStr_size, wordsStr_size]
  split
  · rw [wordsStr_size]; simp only [List.length_cons, List.length_nil]; omega
  · rw [ByteArray.size_append, wordsStr_size]; simp only [List.length_cons, List.length_nil]; omega
theorem Tryz.infoIssued : (Tryz.prog.info? 164).map (fun i => (i.zero, i.size, i.bytes)) = some (some (.agg #[.int .i64 0, .int .i64 0, .int .i64 0, .bool false]), 4, 32) := by kernel_rfl
/-- one line more. -/
theorem LifeI.more {w0 w w9 : World} {x b : Nat} {S : CliS} {bs : List BookM} {vl v : Value} {wt sd : Int} (h : LifeI w0 x b S bs vl wt sd w) (hf : Fr (fun k => vl.ownBlock = some k) w w9) (l : BookM)
    (ho : w9.ownsRow w0.heap.size 164 4 v (bs.length + 1) (bookRow 9 bs ++ l.cells (9 + bs.length))) : LifeI w0 x b S (bs ++ [l]) v wt sd (w9.setCell ⟨x, 1, none⟩ v) := by
  have hx9 : w9.heap[x]? = some (.cells #[ptrV b, vl, .int .i64 wt, .int .i64 sd] 62 (0, 0)) := (hf.block _ (lt_of_block h.box) (fun e => h.row_x e)).trans h.box
  have hvx : v.ownBlock ≠ some x := fun e => by
    rcases ho.2 with ⟨h0, _⟩ | ⟨g', cap, cur, h0, _, hg, _⟩
    · rw [h0] at e; cases e
    · rw [h0] at e
      obtain rfl : g' = x := Option.some.inj e
      rw [hx9] at hg
      simp at hg
  refine ⟨(setOf' hx9 1 _).trans rfl, ?_, (h.cli.fr hf (fun k hk e => h.row_foot e hk)).keep (by rw [World.size_setCell]; exact Nat.le_refl _) (fun k hk => Below.heap_setCell _ _ _ _ (fun e => h.x_foot ((show k = x from e) ▸ hk))), h.lo, h.xlo, (h.fr.then hf (fun i hi e => by have := (h.row.lt i e).1; omega)).setCell (p := ⟨x, 1, none⟩) (.inr h.xlo) _⟩
  rw [List.length_append, bookRow_append]
  exact ownsRow_keep ho (fun g e => Below.heap_setCell _ _ _ _ (fun e2 => hvx (by rw [e]; exact congrArg some e2)))
def waitB (S : CliS) (n : Int) : Bool := (S.calls.find? (forB n 65636)).isSome

set_option maxRecDepth 100000 in
set_option maxHeartbeats 40000000 in
theorem Life_acts {w0 w : World} {x b : Nat} {S : CliS} {bs : List BookM} {vl : Value} {wt sd : Int} {p : PaceM} {room : Int} {k : Nat} (h : LifeI w0 x b S bs vl wt sd w) (hh : Once p room k S bs wt sd) (hk : k + 1 ≤ 33554432) (hbe : Beside S) (hg0 : ErrT w0) (a : ActM) (ha : a.Is) (hroom : 1 ≤ room ∧ room ≤ 6) :
    Calls Tryz.prog 18 #[.pointer (some ⟨x, 0, none⟩), .agg #[.int .i64 a.kind, .int .i64 a.n, .string a.s], .agg #[.int .i64 p.base, .int .i64 p.cap, .int .i64 p.tries], .int .i64 room] w fun e w' => e = .returned (.bool true) ∧
      ∃ S' bs' vl' sd', LifeI w0 x b S' bs' vl' wt sd' w' ∧ Half p room (k + 1) S' bs' wt sd' ∧ Beside S' := by
  have HH := Lib.hid hh
  have HG0 := Lib.hid hg0
  have HB := Lib.hid hbe
  have HK := Lib.hid hk
  have HA := Lib.hid ha
  have hf1 := ((Fr.refl (fun _ => False) w).alloc (.cells #[.int .i64 a.kind, .int .i64 a.n, .string a.s] 65)).alloc (.cells #[.int .i64 p.base, .int .i64 p.cap, .int .i64 p.tries] 23)
  have ha1 := Lib.hid (heap_old (o := .cells #[.int .i64 p.base, .int .i64 p.cap, .int .i64 p.tries] 23) (heap_alloc_new w (.cells #[.int .i64 a.kind, .int .i64 a.n, .string a.s] 65)))
  have hp1 := Lib.hid (heap_two (w := w) (a := .cells #[.int .i64 a.kind, .int .i64 a.n, .string a.s] 65) (b := .cells #[.int .i64 p.base, .int .i64 p.cap, .int .i64 p.tries] 23))
  have HX := Lib.hid (h.grown hf1)
  have hbl : bs.length ≤ 33554432 := by have h1 := HH.out.len; have h2 := HH.out.k1; omega
  clear h hh hg0 hbe hf1 ha hk
  go_enter Tryz.func18, Tryz.ntmps18
  go_upto_region 1 with fail
  generalize (w.alloc (.cells #[.int .i64 a.kind, .int .i64 a.n, .string a.s] 65)).alloc (.cells #[.int .i64 p.base, .int .i64 p.cap, .int .i64 p.tries] 23) = w1 at *
  obtain ⟨A2, c2, e2, hL⟩ := HX.out.lines
  have HL := Lib.hid hL
  have x1 : w1.cell? ⟨x, 1, none⟩ = some (.slice A2 bs.length c2) := e2 ▸ cellOf HX.out.box 1
  have a1 : w1.cell? ⟨w.heap.size, 1, none⟩ = some (.int .i64 a.n) := cellOf ha1.out 1
  have HE2 := Lib.hid e2
  clear hL e2
  have hin : IntKind.i64.wrap ((bs.length : Int) + 1) = (bs.length : Int) + 1 := IntWalk.i64_in _ (by omega)
  have HPk := Lib.hid (fun (w' : World) => pick17_any a.n ((bs.length : Int) + 1) w' HA.out.n (by omega) (by omega))
  obtain ⟨r0, r1⟩ := pickN_range a.n ((bs.length : Int) + 1) (by omega)
  generalize pickN a.n ((bs.length : Int) + 1) = pn at *
  have hin2 : IntKind.i64.wrap (9 + pn) = 9 + pn := IntWalk.i64_in _ (by omega)
  go_cut [9] from 9 to 34 (fun v wx => v = .int .i64 (9 + pn) ∧ ∃ nq, wx = w1.drewN nq)
  case first => as_aux_lemma =>
    go_quiet ((go_at_call 13; exact Calls.quiet_of_same (HPk.out _)))
    go_wp2_with fail
    go_meet
    case rel => exact ⟨rfl, _, rfl⟩
  case rest =>
  obtain ⟨rfl, nq, hwc⟩ := hcut
  have hfc : Fr (fun _ => False) w1 wc := by rw [hwc]; exact (Fr.refl _ w1).drewN nq
  have HXc := Lib.hid (HX.out.grown hfc)
  have HFc := Lib.hid hfc
  have HOf := Lib.hid (of_any HXc.out (by omega) (9 + pn))
  have x1 : wc.cell? ⟨x, 1, none⟩ = some (.slice A2 bs.length c2) := HE2.out ▸ cellOf HXc.out.box 1
  have HLc : Hid (∀ i (hi : i < bs.length), ∃ g, A2 = some ⟨g, 0, none⟩ ∧ wc.cell? ⟨g, i * 4 + 3, none⟩ = some (.bool bs[i].over)) := Lib.hid (fun i hi => by
    obtain ⟨g, e, _, _, _, l3⟩ := HL.out i hi
    exact ⟨g, e, (World.cell?_of_block (w := w1) (hfc.block _ (World.block_lt_of_cell? _ _ l3) id)).trans l3⟩)
  have HFW := Lib.hid (find_wait HH.out (9 + pn))
  clear hfc hwc HL HPk
  generalize hov : ofM bs (9 + pn) = ov at *
  go_upto_region 3 with (go_at_call 79; refine HOf.out.mono ?_; rintro e w' ⟨rfl, hw⟩; obtain rfl : wc = w' := hw.symm)
  go_cut [11] from 38 to 50 (fun v wx => v = .bool (waitB S (9 + pn)) ∧ wx = wc)
  case first => as_aux_lemma =>
    rcases HFW.out with ⟨i, hi, r, _, ho, hv, _, _, hf⟩ | ⟨hf, ⟨i, hi, _, ho, hv⟩ | ho⟩
    · have hB : waitB S (9 + pn) = true := by unfold waitB; rw [hf]; rfl
      subst ho
      obtain ⟨g, rfl, l3⟩ := HLc.out i hi
      rw [hv] at l3
      have hii : (i : Int) < (bs.length : Nat) := by omega
      have hd : decide ((0 : Int) ≤ (i : Int)) = true := decide_eq_true (by omega)
      have HBW := Lib.hid hB
      clear hB hf hov
      go_wp2_with fail
      go_meet
      case rel => exact ⟨by rw [HBW.out], rfl⟩
    · have hB : waitB S (9 + pn) = false := by unfold waitB; rw [hf]; rfl
      subst ho
      obtain ⟨g, rfl, l3⟩ := HLc.out i hi
      rw [hv] at l3
      have hii : (i : Int) < (bs.length : Nat) := by omega
      have hd : decide ((0 : Int) ≤ (i : Int)) = true := decide_eq_true (by omega)
      have HBW := Lib.hid hB
      clear hB hf hov
      go_wp2_with fail
      go_meet
      case rel => exact ⟨by rw [HBW.out], rfl⟩
    · have hB : waitB S (9 + pn) = false := by unfold waitB; rw [hf]; rfl
      subst ho
      have HBW := Lib.hid hB
      clear hB hf hov
      go_wp2_with fail
      go_meet
      case rel => exact ⟨by rw [HBW.out], rfl⟩
  case rest =>
  obtain ⟨rfl, hwd⟩ := hcut
  subst hwd
  have HPR := Lib.hid (reply_prints (n := 9 + pn) (by omega) (by omega) _ (HG0.out.fr HXc.out.fr id))
  clear HOf HLc HFW x1 hin hin2
  go_wp2_with fail
  refine HPR.out.mono ?_
  rintro e w2 ⟨rfl, hf2⟩
  have HL2 := Lib.hid (HXc.out.grown hf2)
  have hF2 := HFc.out.trans hf2
  have HA2 := Lib.hid ((hF2.block _ (lt_of_block ha1.out) id).trans ha1.out)
  have HP2 := Lib.hid ((hF2.block _ (lt_of_block hp1.out) id).trans hp1.out)
  have x0 : w2.cell? ⟨x, 0, none⟩ = some (.pointer (some ⟨b, 0, none⟩)) := cellOf HL2.out.box 0
  have a0 : w2.cell? ⟨w.heap.size, 0, none⟩ = some (.int .i64 a.kind) := cellOf HA2.out 0
  have a2 : w2.cell? ⟨w.heap.size, 2, none⟩ = some (.string a.s) := cellOf HA2.out 2
  have p0 : w2.cell? ⟨w.heap.size + 1, 0, none⟩ = some (.int .i64 p.base) := cellOf HP2.out 0
  have p1 : w2.cell? ⟨w.heap.size + 1, 1, none⟩ = some (.int .i64 p.cap) := cellOf HP2.out 1
  have p2 : w2.cell? ⟨w.heap.size + 1, 2, none⟩ = some (.int .i64 p.tries) := cellOf HP2.out 2
  have hcl : S.calls.length ≤ 33554432 := by have := HH.out.sync.length; omega
  have ho0 : S.outs.length = 0 := by rw [HH.out.outs]; rfl
  have hn0 := HH.out.now0
  have hn1 : S.now ≤ 33554432 := by have h1 := HH.out.now1; have h2 := HH.out.k1; omega
  generalize hdata : replyStr (replyOf (9 + pn)) = data at *
  have HDt := Lib.hid hdata
  clear hf2 hF2 HPR HXc HFc HX ha1 hp1 hdata
  by_cases q1 : a.kind = 1
  · have b0 : (a.kind == 0) = false := by rw [q1]; rfl
    have b1 : (a.kind == 1) = true := by rw [q1]; rfl
    have HDue := Lib.hid (Life_due HL2.out HH.out HG0.out)
    clear q1
    as_aux_lemma =>
      go_wp2_with fail
      refine HDue.out.mono ?_
      rintro e w3 ⟨rfl, sd', hs', hl'⟩
      have HR := Lib.hid (And.intro hs' hl')
      clear hs' hl' HDue
      go_wp2_with fail
      go_ret
      exact ⟨rfl, dueT S, _, vl, sd', HR.out.2, ((HH.out.dued sd' HR.out.1).2.more HK.out).half, HB.out.due hn0⟩
  have c1 : (a.kind == 1) = false := beq_eq_false_iff_ne.2 q1
  have hds : data.size ≤ 140737488351232 := by
    have := replyStr_le (replyOf_may (n := 9 + pn) (word_of (by omega) (by omega)))
    rw [HDt.out] at this
    omega
  have hdp : parseReplyM data = (replyOf (9 + pn), 0) := by rw [← HDt.out]; exact replyOf_parse (word_of (by omega) (by omega))
  have hcfg : S.cfg.addr = 65537 := by rw [HH.out.cfg]; rfl
  have hg2 := HG0.out.fr HL2.out.fr id
  by_cases q3 : a.kind = 3
  · have b0 : (a.kind == 0) = false := by rw [q3]; rfl
    have b3 : (a.kind == 3) = true := by rw [q3]; rfl
    clear q1 q3
    cases hf : S.calls.find? (forB (9 + pn) 65636) with
    | some r =>
      have hwB : waitB S (9 + pn) = true := by unfold waitB; rw [hf]; rfl
      have hrm : r ∈ S.calls := List.mem_of_find?_eq_some hf
      have hre : r.seq = 9 + pn := by
        rcases find_wait HH.out (9 + pn) with ⟨_, _, r', _, _, _, _, e, hf'⟩ | ⟨hf', _⟩
        · rw [hf'] at hf; rw [← Option.some.inj hf]; exact e
        · rw [hf'] at hf; cases hf
      have hfi := HB.out.first r hrm
      have HHr := Lib.hid (Hear_some HL2.out.cli hg2 (by omega) (by omega) HB.out.met hn0 (by omega) 65636 65537 data hds r ⟨hfi.1, by omega⟩ (by rw [hdp]; unfold hearR; rw [if_pos ⟨hcfg.symm, rfl⟩]; exact hf))
      rw [hre] at HHr
      have HRm := Lib.hid hrm
      rw [hwB]
      clear hf hdp hwB hrm hre
      as_aux_lemma =>
        go_wp2_with fail
        refine HHr.out.mono ?_
        rintro e w3 ⟨rfl, vc, vo, hc, hv, hvo, hf3⟩
        have HL3 := Lib.hid (HL2.out.heard hc hv hvo hf3)
        clear hc hv hvo hf3 HHr
        go_wp2_with fail
        go_ret
        have hs := metS_same S r
        exact ⟨rfl, _, bs, vl, sd, HL3.out, (HH.out.more HK.out).heard HL2.out.cli.rest.nodup r HRm.out (outcomeM (parseReplyM data).1) _ rfl hs.2.2.1 hs.2.1 hs.2.2.2.1 rfl, HB.out.heard r _ vc vo⟩
    | none =>
      have hwB : waitB S (9 + pn) = false := by unfold waitB; rw [hf]; rfl
      have HHr := Lib.hid (Hear_none HL2.out.cli hg2 (by omega) 65636 65537 data hds (by rw [hdp]; unfold hearR; rw [if_pos ⟨hcfg.symm, rfl⟩]; exact hf))
      rw [hwB]
      clear hf hdp hwB
      as_aux_lemma =>
        go_wp2_with fail
        refine HHr.out.mono ?_
        rintro e w3 ⟨rfl, hf3⟩
        have HL3 := Lib.hid (HL2.out.grown hf3)
        clear hf3 HHr
        go_wp2_with fail
        go_ret
        exact ⟨rfl, S, bs, vl, sd, HL3.out, (HH.out.more HK.out).half, HB.out⟩
  have c3 : (a.kind == 3) = false := beq_eq_false_iff_ne.2 q3
  by_cases q4 : a.kind = 4
  · have b0 : (a.kind == 0) = false := by rw [q4]; rfl
    have b4 : (a.kind == 4) = true := by rw [q4]; rfl
    have HN1 := Lib.hid (Hear_none HL2.out.cli hg2 (by omega) 65637 65537 data hds (by
      unfold hearR
      split
      · rw [List.find?_eq_none]
        intro r hr
        unfold forB
        rw [(HH.out.mine r hr).dst]
        simp
      · rfl))
    have HN2 : Hid (∀ w3, Fr (fun _ => False) w2 w3 → Calls Tryz.prog 82 #[.pointer (some ⟨b, 0, none⟩), .agg #[.int .i64 65636, .int .i64 65538, .string data]] w3 fun e w' => e = .returned (.int .i64 0) ∧ Fr (fun _ => False) w3 w') := Lib.hid (fun w3 hf => Hear_none (HL2.out.cli.grown hf) (hg2.fr hf id) (by omega) 65636 65538 data hds (by
      unfold hearR
      rw [if_neg (by rw [hcfg]; rintro ⟨e, _⟩; cases e)]))
    clear q1 q3 q4 hdp
    as_aux_lemma =>
      go_wp2_with fail
      refine HN1.out.mono ?_
      rintro e w3 ⟨rfl, hf3⟩
      have HL3 := Lib.hid (HL2.out.grown hf3)
      have x03 : w3.cell? ⟨x, 0, none⟩ = some (.pointer (some ⟨b, 0, none⟩)) := cellOf HL3.out.box 0
      have HN3 := Lib.hid (HN2.out w3 hf3)
      clear hf3 HN1 HN2 x0
      go_wp2_with fail
      refine HN3.out.mono ?_
      rintro e w4 ⟨rfl, hf4⟩
      have HL4 := Lib.hid (HL3.out.grown hf4)
      clear hf4 HN3 x03
      go_wp2_with fail
      go_ret
      exact ⟨rfl, S, bs, vl, sd, HL4.out, (HH.out.more HK.out).half, HB.out⟩
  have c4 : (a.kind == 4) = false := beq_eq_false_iff_ne.2 q4
  by_cases q5 : a.kind = 5
  · have b0 : (a.kind == 0) = false := by rw [q5]; rfl
    have b5 : (a.kind == 5) = true := by rw [q5]; rfl
    have HPa := Lib.hid (ParseReply_any a.s w2 hg2 HA.out.s)
    unfold replyCells at HPa
    clear q1 q3 q4 q5 hdp
    cases hpr : parseReplyM a.s with
    | mk rep f =>
    rw [hpr] at HPa
    by_cases hf0 : f = 0
    · subst hf0
      rcases find_wait HH.out rep.xid with ⟨i, hi, r, hxi, hofi, hov2, hrm, hre, hf⟩ | ⟨hf, ⟨i, hi, hxi, hofi, hov2⟩ | hofi⟩
      · have hfi := HB.out.first r hrm
        have hge := (HH.out.sync.range r hrm).1
        have hne : (r.seq != 0) = true := by simp; omega
        have HHr : Hid (∀ wa, Fr (fun _ => False) w2 wa → ∀ wb : World, wb.heap = wa.heap → Calls Tryz.prog 82 #[.pointer (some ⟨b, 0, none⟩), .agg #[.int .i64 65636, .int .i64 65537, .string a.s]] wb fun e w' => e = .returned (.int .i64 r.seq) ∧ ∃ vc vo, Cli w' b (heardS S r (outcomeM rep) vc vo) ∧ vc.ownBlock = S.vc.ownBlock ∧ (vo.ownBlock = S.vo.ownBlock ∨ ∃ g, vo.ownBlock = some g ∧ wb.heap.size ≤ g) ∧ Fr (fun k => k = b ∨ S.vc.ownBlock = some k ∨ S.vo.ownBlock = some k ∨ k = S.m) wb w') := Lib.hid (fun wa hfa wb hwb => by
          have := Hear_some ((HL2.out.cli.grown hfa).keep (w' := wb) (by rw [hwb]; exact Nat.le_refl _) (fun k' _ => by rw [hwb])) ((hg2.fr hfa id).keep (by rw [hwb])) (by omega) (by omega) HB.out.met hn0 (by omega) 65636 65537 a.s HA.out.s r ⟨hfi.1, by omega⟩ (by rw [hpr]; unfold hearR; rw [if_pos ⟨hcfg.symm, rfl⟩]; exact hf)
          rw [hpr] at this
          exact this)
        have HRm := Lib.hid hrm
        clear hf hrm hre hge hfi hpr hxi
        as_aux_lemma =>
          go_wp2_with fail
          refine HPa.out.mono ?_
          rintro e w3 ⟨rfl, hf3⟩
          have hfa : Fr (fun _ => False) w2 (w3.alloc (.cells #[.int .i64 rep.xid, .bool rep.denied, .int .i64 rep.verf.flavor, .string rep.verf.body, .int .i64 rep.accept, .int .i64 rep.reject, .int .i64 rep.why, .int .i64 rep.low, .int .i64 rep.high, .string rep.results] 45)) := hf3.alloc _
          have hra := Lib.hid (heap_alloc_new w3 (.cells #[.int .i64 rep.xid, .bool rep.denied, .int .i64 rep.verf.flavor, .string rep.verf.body, .int .i64 rep.accept, .int .i64 rep.reject, .int .i64 rep.why, .int .i64 rep.low, .int .i64 rep.high, .string rep.results] 45))
          have HLa := Lib.hid (HL2.out.grown hfa)
          have HZ3 := Lib.hid (show w2.heap.size ≤ w3.heap.size from hf3.size)
          have y0 : ∀ A, (w3.alloc A).cell? ⟨x, 0, none⟩ = some (.pointer (some ⟨b, 0, none⟩)) := fun A => Lib.cell?_alloc_some _ (cellOf (HL2.out.grown hf3).box 0)
          have ya : ∀ A, (w3.alloc A).cell? ⟨w.heap.size, 2, none⟩ = some (.string a.s) := fun A => Lib.cell?_alloc_some _ (cellOf ((hf3.block _ (lt_of_block HA2.out) id).trans HA2.out) 2)
          have HHe := Lib.hid (HHr.out _ hfa)
          clear hf3 hfa HPa HHr x0 a0 a2 p0 p1 p2
          go_wp2_with fail
          replace y0 := y0 (.cells #[.int .i64 rep.xid, .bool rep.denied, .int .i64 rep.verf.flavor, .string rep.verf.body, .int .i64 rep.accept, .int .i64 rep.reject, .int .i64 rep.why, .int .i64 rep.low, .int .i64 rep.high, .string rep.results] 45)
          replace ya := ya (.cells #[.int .i64 rep.xid, .bool rep.denied, .int .i64 rep.verf.flavor, .string rep.verf.body, .int .i64 rep.accept, .int .i64 rep.reject, .int .i64 rep.why, .int .i64 rep.low, .int .i64 rep.high, .string rep.results] 45)
          generalize w3.alloc (.cells #[.int .i64 rep.xid, .bool rep.denied, .int .i64 rep.verf.flavor, .string rep.verf.body, .int .i64 rep.accept, .int .i64 rep.reject, .int .i64 rep.why, .int .i64 rep.low, .int .i64 rep.high, .string rep.results] 45) = wa at *
          go_still_tail 7, (by kernel_rfl)
          change wpList _ _ _ _ _ wa.drew
          clear y0 ya
          have HHd := HHe.out wa.drew rfl
          go_wp2_with fail
          refine HHd.mono ?_
          rintro e w4 ⟨rfl, vc, vo, hc, hv, hvo, hf4⟩
          have HL4 := Lib.hid ((HLa.out.grown (Fr.refl _ wa).drew).heard hc hv hvo hf4)
          have hr4 : w4.heap[w3.heap.size]? = some (.cells #[.int .i64 rep.xid, .bool rep.denied, .int .i64 rep.verf.flavor, .string rep.verf.body, .int .i64 rep.accept, .int .i64 rep.reject, .int .i64 rep.why, .int .i64 rep.low, .int .i64 rep.high, .string rep.results] 45 (0, 0)) := (hf4.block _ (lt_of_block hra.out) (fun e => by
            have hlt : ∀ q, Foot b S q → q < w2.heap.size := fun q hq => HL2.out.cli.foot_lt hq
            have hz := HZ3.out
            rcases e with e | e | e | e
            · have := hlt _ (.inl e); omega
            · have := hlt _ (.inr (.inr (.inr (.inl e)))); omega
            · have := hlt _ (.inr (.inr (.inr (.inr (.inl e))))); omega
            · have := hlt _ (.inr (.inl e)); omega)).trans hra.out
          have z0 : w4.cell? ⟨w3.heap.size, 0, none⟩ = some (.int .i64 rep.xid) := cellOf hr4 0
          have HOf4 := Lib.hid (of_any HL4.out (by omega) rep.xid)
          obtain ⟨A4, c4, e4, hL4⟩ := HL4.out.lines
          have x14 : w4.cell? ⟨x, 1, none⟩ = some (.slice A4 bs.length c4) := e4 ▸ cellOf HL4.out.box 1
          obtain ⟨g4, rfl, _, _, _, l4⟩ := hL4 i hi
          rw [hov2] at l4
          have hii : (i : Int) < (bs.length : Nat) := by omega
          have hd4 : decide ((0 : Int) ≤ (i : Int)) = true := decide_eq_true (by omega)
          rw [hofi] at HOf4
          clear hr4 hf4 e4 hL4 HHd HHe HLa hra hc hv hvo
          go_wp2_with fail
          refine HOf4.out.mono ?_
          rintro e w5 ⟨rfl, hw⟩
          obtain rfl : w4 = w5 := hw.symm
          go_wp2_with fail
          go_ret
          exact ⟨rfl, _, bs, vl, sd, HL4.out, (HH.out.more HK.out).heard HL2.out.cli.rest.nodup r HRm.out (outcomeM rep) _ rfl (metS_same S r).2.2.1 (metS_same S r).2.1 (metS_same S r).2.2.2.1 rfl, HB.out.heard r _ vc vo⟩

      · have HHr : Hid (∀ wa, Fr (fun _ => False) w2 wa → ∀ wb : World, wb.heap = wa.heap → Calls Tryz.prog 82 #[.pointer (some ⟨b, 0, none⟩), .agg #[.int .i64 65636, .int .i64 65537, .string a.s]] wb fun e w' => e = .returned (.int .i64 0) ∧ Fr (fun _ => False) wb w') := Lib.hid (fun wa hfa wb hwb => Hear_none ((HL2.out.cli.grown hfa).keep (by rw [hwb]; exact Nat.le_refl _) (fun k' _ => by rw [hwb])) ((hg2.fr hfa id).keep (by rw [hwb])) (by omega) 65636 65537 a.s HA.out.s (by rw [hpr]; unfold hearR; rw [if_pos ⟨hcfg.symm, rfl⟩]; exact hf))
        clear hf hpr hxi
        as_aux_lemma =>
          go_wp2_with fail
          refine HPa.out.mono ?_
          rintro e w3 ⟨rfl, hf3⟩
          have hfa : Fr (fun _ => False) w2 (w3.alloc (.cells #[.int .i64 rep.xid, .bool rep.denied, .int .i64 rep.verf.flavor, .string rep.verf.body, .int .i64 rep.accept, .int .i64 rep.reject, .int .i64 rep.why, .int .i64 rep.low, .int .i64 rep.high, .string rep.results] 45)) := hf3.alloc _
          have hra := Lib.hid (heap_alloc_new w3 (.cells #[.int .i64 rep.xid, .bool rep.denied, .int .i64 rep.verf.flavor, .string rep.verf.body, .int .i64 rep.accept, .int .i64 rep.reject, .int .i64 rep.why, .int .i64 rep.low, .int .i64 rep.high, .string rep.results] 45))
          have HLa := Lib.hid (HL2.out.grown hfa)
          have HZ3 := Lib.hid (show w2.heap.size ≤ w3.heap.size from hf3.size)
          have y0 : ∀ A, (w3.alloc A).cell? ⟨x, 0, none⟩ = some (.pointer (some ⟨b, 0, none⟩)) := fun A => Lib.cell?_alloc_some _ (cellOf (HL2.out.grown hf3).box 0)
          have ya : ∀ A, (w3.alloc A).cell? ⟨w.heap.size, 2, none⟩ = some (.string a.s) := fun A => Lib.cell?_alloc_some _ (cellOf ((hf3.block _ (lt_of_block HA2.out) id).trans HA2.out) 2)
          have HHe := Lib.hid (HHr.out _ hfa)
          clear hf3 hfa HPa HHr x0 a0 a2 p0 p1 p2
          go_wp2_with fail
          replace y0 := y0 (.cells #[.int .i64 rep.xid, .bool rep.denied, .int .i64 rep.verf.flavor, .string rep.verf.body, .int .i64 rep.accept, .int .i64 rep.reject, .int .i64 rep.why, .int .i64 rep.low, .int .i64 rep.high, .string rep.results] 45)
          replace ya := ya (.cells #[.int .i64 rep.xid, .bool rep.denied, .int .i64 rep.verf.flavor, .string rep.verf.body, .int .i64 rep.accept, .int .i64 rep.reject, .int .i64 rep.why, .int .i64 rep.low, .int .i64 rep.high, .string rep.results] 45)
          generalize w3.alloc (.cells #[.int .i64 rep.xid, .bool rep.denied, .int .i64 rep.verf.flavor, .string rep.verf.body, .int .i64 rep.accept, .int .i64 rep.reject, .int .i64 rep.why, .int .i64 rep.low, .int .i64 rep.high, .string rep.results] 45) = wa at *
          go_still_tail 7, (by kernel_rfl)
          change wpList _ _ _ _ _ wa.drew
          clear y0 ya
          have HHd := HHe.out wa.drew rfl
          go_wp2_with fail
          refine HHd.mono ?_
          rintro e w4 ⟨rfl, hf4⟩
          have HL4 := Lib.hid ((HLa.out.grown (Fr.refl _ wa).drew).grown hf4)
          have hr4 : w4.heap[w3.heap.size]? = some (.cells #[.int .i64 rep.xid, .bool rep.denied, .int .i64 rep.verf.flavor, .string rep.verf.body, .int .i64 rep.accept, .int .i64 rep.reject, .int .i64 rep.why, .int .i64 rep.low, .int .i64 rep.high, .string rep.results] 45 (0, 0)) := (hf4.block _ (lt_of_block hra.out) id).trans hra.out
          have z0 : w4.cell? ⟨w3.heap.size, 0, none⟩ = some (.int .i64 rep.xid) := cellOf hr4 0
          have HOf4 := Lib.hid (of_any HL4.out (by omega) rep.xid)
          obtain ⟨A4, c4, e4, hL4⟩ := HL4.out.lines
          have x14 : w4.cell? ⟨x, 1, none⟩ = some (.slice A4 bs.length c4) := e4 ▸ cellOf HL4.out.box 1
          obtain ⟨g4, rfl, _, _, _, l4⟩ := hL4 i hi
          rw [hov2] at l4
          have hii : (i : Int) < (bs.length : Nat) := by omega
          have hd4 : decide ((0 : Int) ≤ (i : Int)) = true := decide_eq_true (by omega)
          rw [hofi] at HOf4
          clear hr4 hf4 e4 hL4 HHd HHe HLa hra
          go_wp2_with fail
          refine HOf4.out.mono ?_
          rintro e w5 ⟨rfl, hw⟩
          obtain rfl : w4 = w5 := hw.symm
          go_wp2_with fail
          go_ret
          exact ⟨rfl, S, bs, vl, sd, HL4.out, (HH.out.more HK.out).half, HB.out⟩

      · have HHr : Hid (∀ wa, Fr (fun _ => False) w2 wa → ∀ wb : World, wb.heap = wa.heap → Calls Tryz.prog 82 #[.pointer (some ⟨b, 0, none⟩), .agg #[.int .i64 65636, .int .i64 65537, .string a.s]] wb fun e w' => e = .returned (.int .i64 0) ∧ Fr (fun _ => False) wb w') := Lib.hid (fun wa hfa wb hwb => Hear_none ((HL2.out.cli.grown hfa).keep (by rw [hwb]; exact Nat.le_refl _) (fun k' _ => by rw [hwb])) ((hg2.fr hfa id).keep (by rw [hwb])) (by omega) 65636 65537 a.s HA.out.s (by rw [hpr]; unfold hearR; rw [if_pos ⟨hcfg.symm, rfl⟩]; exact hf))
        clear hf hpr
        as_aux_lemma =>
          go_wp2_with fail
          refine HPa.out.mono ?_
          rintro e w3 ⟨rfl, hf3⟩
          have hfa : Fr (fun _ => False) w2 (w3.alloc (.cells #[.int .i64 rep.xid, .bool rep.denied, .int .i64 rep.verf.flavor, .string rep.verf.body, .int .i64 rep.accept, .int .i64 rep.reject, .int .i64 rep.why, .int .i64 rep.low, .int .i64 rep.high, .string rep.results] 45)) := hf3.alloc _
          have hra := Lib.hid (heap_alloc_new w3 (.cells #[.int .i64 rep.xid, .bool rep.denied, .int .i64 rep.verf.flavor, .string rep.verf.body, .int .i64 rep.accept, .int .i64 rep.reject, .int .i64 rep.why, .int .i64 rep.low, .int .i64 rep.high, .string rep.results] 45))
          have HLa := Lib.hid (HL2.out.grown hfa)
          have HZ3 := Lib.hid (show w2.heap.size ≤ w3.heap.size from hf3.size)
          have y0 : ∀ A, (w3.alloc A).cell? ⟨x, 0, none⟩ = some (.pointer (some ⟨b, 0, none⟩)) := fun A => Lib.cell?_alloc_some _ (cellOf (HL2.out.grown hf3).box 0)
          have ya : ∀ A, (w3.alloc A).cell? ⟨w.heap.size, 2, none⟩ = some (.string a.s) := fun A => Lib.cell?_alloc_some _ (cellOf ((hf3.block _ (lt_of_block HA2.out) id).trans HA2.out) 2)
          have HHe := Lib.hid (HHr.out _ hfa)
          clear hf3 hfa HPa HHr x0 a0 a2 p0 p1 p2
          go_wp2_with fail
          replace y0 := y0 (.cells #[.int .i64 rep.xid, .bool rep.denied, .int .i64 rep.verf.flavor, .string rep.verf.body, .int .i64 rep.accept, .int .i64 rep.reject, .int .i64 rep.why, .int .i64 rep.low, .int .i64 rep.high, .string rep.results] 45)
          replace ya := ya (.cells #[.int .i64 rep.xid, .bool rep.denied, .int .i64 rep.verf.flavor, .string rep.verf.body, .int .i64 rep.accept, .int .i64 rep.reject, .int .i64 rep.why, .int .i64 rep.low, .int .i64 rep.high, .string rep.results] 45)
          generalize w3.alloc (.cells #[.int .i64 rep.xid, .bool rep.denied, .int .i64 rep.verf.flavor, .string rep.verf.body, .int .i64 rep.accept, .int .i64 rep.reject, .int .i64 rep.why, .int .i64 rep.low, .int .i64 rep.high, .string rep.results] 45) = wa at *
          go_still_tail 7, (by kernel_rfl)
          change wpList _ _ _ _ _ wa.drew
          clear y0 ya
          have HHd := HHe.out wa.drew rfl
          go_wp2_with fail
          refine HHd.mono ?_
          rintro e w4 ⟨rfl, hf4⟩
          have HL4 := Lib.hid ((HLa.out.grown (Fr.refl _ wa).drew).grown hf4)
          have hr4 : w4.heap[w3.heap.size]? = some (.cells #[.int .i64 rep.xid, .bool rep.denied, .int .i64 rep.verf.flavor, .string rep.verf.body, .int .i64 rep.accept, .int .i64 rep.reject, .int .i64 rep.why, .int .i64 rep.low, .int .i64 rep.high, .string rep.results] 45 (0, 0)) := (hf4.block _ (lt_of_block hra.out) id).trans hra.out
          have z0 : w4.cell? ⟨w3.heap.size, 0, none⟩ = some (.int .i64 rep.xid) := cellOf hr4 0
          have HOf4 := Lib.hid (of_any HL4.out (by omega) rep.xid)
          obtain ⟨A4, c4, e4, hL4⟩ := HL4.out.lines
          have x14 : w4.cell? ⟨x, 1, none⟩ = some (.slice A4 bs.length c4) := e4 ▸ cellOf HL4.out.box 1
          rw [hofi] at HOf4
          clear hr4 hf4 e4 hL4 HHd HHe HLa hra
          go_wp2_with fail
          refine HOf4.out.mono ?_
          rintro e w5 ⟨rfl, hw⟩
          obtain rfl : w4 = w5 := hw.symm
          go_wp2_with fail
          go_ret
          exact ⟨rfl, S, bs, vl, sd, HL4.out, (HH.out.more HK.out).half, HB.out⟩

    · have HHr : Hid (∀ wa, Fr (fun _ => False) w2 wa → ∀ wb : World, wb.heap = wa.heap → Calls Tryz.prog 82 #[.pointer (some ⟨b, 0, none⟩), .agg #[.int .i64 65636, .int .i64 65537, .string a.s]] wb fun e w' => e = .returned (.int .i64 0) ∧ Fr (fun _ => False) wb w') := Lib.hid (fun wa hfa wb hwb => Hear_none ((HL2.out.cli.grown hfa).keep (by rw [hwb]; exact Nat.le_refl _) (fun k' _ => by rw [hwb])) ((hg2.fr hfa id).keep (by rw [hwb])) (by omega) 65636 65537 a.s HA.out.s (by rw [hpr]; unfold hearR; rw [if_neg (fun h => hf0 h.2)]))
      have hfb : (f == 0) = false := beq_eq_false_iff_ne.2 hf0
      clear hpr hf0
      as_aux_lemma =>
        go_wp2_with fail
        refine HPa.out.mono ?_
        rintro e w3 ⟨rfl, hf3⟩
        have hfa : Fr (fun _ => False) w2 (w3.alloc (.cells #[.int .i64 rep.xid, .bool rep.denied, .int .i64 rep.verf.flavor, .string rep.verf.body, .int .i64 rep.accept, .int .i64 rep.reject, .int .i64 rep.why, .int .i64 rep.low, .int .i64 rep.high, .string rep.results] 45)) := hf3.alloc _
        have hra := Lib.hid (heap_alloc_new w3 (.cells #[.int .i64 rep.xid, .bool rep.denied, .int .i64 rep.verf.flavor, .string rep.verf.body, .int .i64 rep.accept, .int .i64 rep.reject, .int .i64 rep.why, .int .i64 rep.low, .int .i64 rep.high, .string rep.results] 45))
        have HLa := Lib.hid (HL2.out.grown hfa)
        have HZ3 := Lib.hid (show w2.heap.size ≤ w3.heap.size from hf3.size)
        have y0 : ∀ A, (w3.alloc A).cell? ⟨x, 0, none⟩ = some (.pointer (some ⟨b, 0, none⟩)) := fun A => Lib.cell?_alloc_some _ (cellOf (HL2.out.grown hf3).box 0)
        have ya : ∀ A, (w3.alloc A).cell? ⟨w.heap.size, 2, none⟩ = some (.string a.s) := fun A => Lib.cell?_alloc_some _ (cellOf ((hf3.block _ (lt_of_block HA2.out) id).trans HA2.out) 2)
        have HHe := Lib.hid (HHr.out _ hfa)
        clear hf3 hfa HPa HHr x0 a0 a2 p0 p1 p2
        go_wp2_with fail
        replace y0 := y0 (.cells #[.int .i64 rep.xid, .bool rep.denied, .int .i64 rep.verf.flavor, .string rep.verf.body, .int .i64 rep.accept, .int .i64 rep.reject, .int .i64 rep.why, .int .i64 rep.low, .int .i64 rep.high, .string rep.results] 45)
        replace ya := ya (.cells #[.int .i64 rep.xid, .bool rep.denied, .int .i64 rep.verf.flavor, .string rep.verf.body, .int .i64 rep.accept, .int .i64 rep.reject, .int .i64 rep.why, .int .i64 rep.low, .int .i64 rep.high, .string rep.results] 45)
        generalize w3.alloc (.cells #[.int .i64 rep.xid, .bool rep.denied, .int .i64 rep.verf.flavor, .string rep.verf.body, .int .i64 rep.accept, .int .i64 rep.reject, .int .i64 rep.why, .int .i64 rep.low, .int .i64 rep.high, .string rep.results] 45) = wa at *
        go_still_tail 7, (by kernel_rfl)
        change wpList _ _ _ _ _ wa.drew
        clear y0 ya
        have HHd := HHe.out wa.drew rfl
        go_wp2_with fail
        refine HHd.mono ?_
        rintro e w4 ⟨rfl, hf4⟩
        have HL4 := Lib.hid ((HLa.out.grown (Fr.refl _ wa).drew).grown hf4)
        have hr4 : w4.heap[w3.heap.size]? = some (.cells #[.int .i64 rep.xid, .bool rep.denied, .int .i64 rep.verf.flavor, .string rep.verf.body, .int .i64 rep.accept, .int .i64 rep.reject, .int .i64 rep.why, .int .i64 rep.low, .int .i64 rep.high, .string rep.results] 45 (0, 0)) := (hf4.block _ (lt_of_block hra.out) id).trans hra.out
        have z0 : w4.cell? ⟨w3.heap.size, 0, none⟩ = some (.int .i64 rep.xid) := cellOf hr4 0
        have HOf4 := Lib.hid (of_any HL4.out (by omega) rep.xid)
        obtain ⟨A4, c4, e4, hL4⟩ := HL4.out.lines
        have x14 : w4.cell? ⟨x, 1, none⟩ = some (.slice A4 bs.length c4) := e4 ▸ cellOf HL4.out.box 1

        clear hr4 hf4 e4 hL4 HHd HHe HLa hra
        go_wp2_with fail
        refine HOf4.out.mono ?_
        rintro e w5 ⟨rfl, hw⟩
        obtain rfl : w4 = w5 := hw.symm
        go_wp2_with fail
        go_ret
        exact ⟨rfl, S, bs, vl, sd, HL4.out, (HH.out.more HK.out).half, HB.out⟩

  have c5 : (a.kind == 5) = false := beq_eq_false_iff_ne.2 q5
  by_cases q0 : a.kind = 0
  · have b0 : (a.kind == 0) = true := by rw [q0]; rfl
    have x1 : w2.cell? ⟨x, 1, none⟩ = some (.slice A2 bs.length c2) := HE2.out ▸ cellOf HL2.out.box 1
    have hwr := HH.out.sync.water_range
    have hnx := HH.out.sync.next
    have hwin := HH.out.win
    have hcw : S.cfg.window = room := by rw [HH.out.cfg]; rfl
    have HWa := Lib.hid (fun (w' : World) (e : w'.heap = w2.heap) => Water_any (HL2.out.cli.keep (w' := w') (by rw [e]; exact Nat.le_refl _) (fun k' _ => by rw [e])))
    have w1' : IntKind.i64.wrap (9 + (bs.length : Int)) = 9 + (bs.length : Int) := IntWalk.i64_in _ (by omega)
    have w2' : IntKind.i64.wrap (9 + (bs.length : Int) - waterM S) = 9 + (bs.length : Int) - waterM S := IntWalk.i64_in _ (by omega)
    clear q0 q1 q3 q4 q5 hdp
    by_cases hrm : 9 + (bs.length : Int) - waterM S < room
    · have hd : decide (9 + (bs.length : Int) - waterM S < room) = true := decide_eq_true hrm
      have HCl : Hid (∀ w3 : World, w3.heap = w2.heap → Calls Tryz.prog 49 #[.pointer (some ⟨b, 0, none⟩), .int .i64 65636, .int .i64 7, .int .i64 1, .int .i64 2, .string { data := #[97, 98, 99, 100] }] w3 fun e w' => e = .returned (.tuple #[.int .i64 (9 + (bs.length : Int)), .int .i64 0]) ∧
          ∃ k vc, w3.heap.size ≤ k ∧ Cli w' b { S with calls := S.calls ++ [newCall S k w3.heap.size 65636 7 1 2 abcdS], vc := vc, next := S.next + 1 } ∧ (vc.ownBlock = S.vc.ownBlock ∨ ∃ g, vc.ownBlock = some g ∧ w3.heap.size ≤ g) ∧ Fr (fun k => k = b ∨ S.vc.ownBlock = some k) w3 w') := Lib.hid (fun w3 e => by
        have := Call_ok (HL2.out.cli.keep (w' := w3) (by rw [e]; exact Nat.le_refl _) (fun k' _ => by rw [e])) HH.out.cliN 65636 7 1 2 abcdS ⟨by decide, by decide, by decide, by decide, by decide, by decide, by rw [hcw]; omega, by omega⟩
        rw [hnx] at this
        rw [hnx]
        exact this)
      have HRM := Lib.hid hrm
      have HWI := Lib.hid (And.intro hnx hwr)
      clear hrm hwin hcw hnx
      go_wp2_with fail
      go_quiet ((go_at_call 53; exact Calls.quiet_of_same (HWa.out _ rfl)))
      have HL3 := Lib.hid (HL2.out.grown ((Fr.refl _ w2).drewN nq))
      have HCl3 := HCl.out (w2.drewN nq) rfl
      have x03 : (w2.drewN nq).cell? ⟨x, 0, none⟩ = some (.pointer (some ⟨b, 0, none⟩)) := cellOf HL3.out.box 0
      clear x1 HCl HWa a0 a2 p0 p1 p2
      generalize w2.drewN nq = w3 at *
      go_wp2_with fail
      refine HCl3.mono ?_
      rintro e w4 ⟨rfl, kk, vc, hkk, hc, hv, hf4⟩
      have HL4 := Lib.hid (HL3.out.called hkk hc hv hf4)
      have HNow : Hid (∀ w' : World, w'.heap = w4.heap → Calls Tryz.prog 54 #[.pointer (some ⟨b, 0, none⟩)] w' fun r w2 => r = .returned (.int .i64 S.now) ∧ w' = w2) := Lib.hid (fun w' e => (Now_any (HL4.out.cli.keep (w' := w') (by rw [e]; exact Nat.le_refl _) (fun k' _ => by rw [e]))).mono (fun _ _ h => ⟨h.1, h.2.symm⟩))
      have z0 : w4.cell? ⟨x, 0, none⟩ = some (.pointer (some ⟨b, 0, none⟩)) := cellOf HL4.out.box 0
      have z1 : w4.cell? ⟨x, 1, none⟩ = some vl := cellOf HL4.out.box 1
      have HRw := Lib.hid HL4.out.row
      have hxz : x < w4.heap.size := lt_of_block HL4.out.box
      have hz0 : w0.heap.size ≤ w4.heap.size := HL4.out.fr.size
      obtain ⟨i0, hi0, hza, hzb, hzc⟩ := info_parts Tryz.infoIssued
      obtain ⟨v9, w9, hrun, hown, hgrow, _, hat⟩ := run_append_own_at (P := Tryz.prog) ((w4.alloc (.cells #[.int .i64 (9 + (bs.length : Int)), .int .i64 S.now, .int .i64 0, .bool false] 164)).drew) w0.heap.size 60 60 164 i0 _ 4 32 Tryz.underlying60 hi0 hza hzb hzc rfl (by decide) vl bs.length (bookRow 9 bs) ((HRw.out.alloc _).drew) ⟨w4.heap.size, 0, none⟩ 1 1 [.int .i64 (9 + (bs.length : Int)), .int .i64 S.now, .int .i64 0, .bool false] rfl (World.news_of_block (cs := #[.int .i64 (9 + (bs.length : Int)), .int .i64 S.now, .int .i64 0, .bool false]) (t := 164) (fr := (0, 0)) (heap_alloc_new w4 _)) (by simp [Value.oneCell']) (by unfold maxLen; omega) (by omega) (by simp; omega)
      obtain ⟨A9, k9, rfl⟩ := owns_slice hown
      simp [go_sem] at hrun
      have hgF : Fr (fun k => vl.ownBlock = some k) w4 w9 := (((Fr.refl _ w4).alloc _).drew).grown hgrow (fun k e => .inl e)
      have hvx : vl.ownBlock ≠ some x := fun e => HL4.out.row_x e
      have hx9 := (hgF.block _ hxz hvx).trans HL4.out.box
      have fz9 : w9.frozen? ⟨x, 1, none⟩ = false := freeOf hx9 1
      have c91 : w9.cell? ⟨x, 1, none⟩ = some vl := cellOf hx9 1
      have m1 : ∀ A, (w4.alloc A).cell? ⟨x, 1, none⟩ = some vl := fun A => Lib.cell?_alloc_some _ z1
      have HLn := HL4.out.more hgF ⟨S.now, 0, false⟩ hown
      have PK := Lib.hid (And.intro HLn (And.intro ((HH.out.called HK.out (by rw [HWI.out.1]; exact HRM.out) kk w3.heap.size vc).half) (HB.out.called hn0 kk w3.heap.size 65636 7 1 2 abcdS vc)))
      clear hown hgrow hat hgF hx9 hvx hc hv hf4 hkk HCl3 x03 HLn HRw HL4 HL3 HDt hg2 HH HB HG0 HK HA HL2 HA2 HP2 HWI HRM HE2 hi0 hza hzb hzc hxz hz0 w1' w2' hd r0 r1 hov c1 c3 c4 c5 b0 hds hcfg hcl ho0 hn0 hn1 hwr hroom
      go_wp2_with fail
      go_region_with ((go_at_call 54; refine (HNow.out w4.drew rfl).mono ?_; rintro e w5 ⟨rfl, rfl⟩))
      all_goals (
        clear hrun m1 z0 z1 c91 fz9 HNow
        have hs1 : IntKind.i64.wrap (8 + ((bs.length : Int) + 1)) = 8 + ((bs.length : Int) + 1) := IntWalk.i64_in _ (by omega)
        have hs2 : (9 + (bs.length : Int) == 8 + ((bs.length : Int) + 1)) = true := beq_iff_eq.2 (by omega)
        generalize w9.setCell ⟨x, 1, none⟩ (.slice A9 (bs.length + 1) k9) = wz at *
        have y1 : wz.cell? ⟨x, 1, none⟩ = some (.slice A9 (bs.length + 1) k9) := cellOf PK.out.1.box 1
        go_wp2_with fail
        go_ret
        exact ⟨rfl, _, _, _, sd, PK.out.1, PK.out.2.1, PK.out.2.2⟩)
    · have hd : decide (9 + (bs.length : Int) - waterM S < room) = false := decide_eq_false hrm
      have HCl : Hid (∀ w3 : World, w3.heap = w2.heap → Calls Tryz.prog 49 #[.pointer (some ⟨b, 0, none⟩), .int .i64 65636, .int .i64 7, .int .i64 1, .int .i64 2, .string { data := #[97, 98, 99, 100] }] w3 fun e w' => e = .returned (.tuple #[.int .i64 0, .int .i64 171]) ∧ Fr (fun _ => False) w3 w') := Lib.hid (fun w3 e =>
        Call_window (HL2.out.cli.keep (w' := w3) (by rw [e]; exact Nat.le_refl _) (fun k' _ => by rw [e])) HH.out.cliN 65636 7 1 2 abcdS (by decide) (by decide) (by decide) (by decide) (by decide) (by decide) (by decide) (by rw [hcw]; omega))
      clear hrm hwin hcw hnx
      as_aux_lemma =>
        go_wp2_with fail
        go_quiet ((go_at_call 53; exact Calls.quiet_of_same (HWa.out _ rfl)))
        have HL3 := Lib.hid (HL2.out.grown ((Fr.refl _ w2).drewN nq))
        have HCl3 := HCl.out (w2.drewN nq) rfl
        have x03 : (w2.drewN nq).cell? ⟨x, 0, none⟩ = some (.pointer (some ⟨b, 0, none⟩)) := cellOf HL3.out.box 0
        clear x1 HCl HWa a0 a2 p0 p1 p2
        generalize w2.drewN nq = w3 at *
        go_wp2_with fail
        refine HCl3.mono ?_
        rintro e w4 ⟨rfl, hf4⟩
        have HL4 := Lib.hid (HL3.out.grown hf4)
        clear hf4 HCl3 x03
        go_wp2_with fail
        go_ret
        exact ⟨rfl, S, bs, vl, sd, HL4.out, (HH.out.more HK.out).half, HB.out⟩
  have c0 : (a.kind == 0) = false := beq_eq_false_iff_ne.2 q0
  have HTk := Lib.hid (Tick_any HL2.out.cli hn0 (by omega) HH.out.callN (by omega) (by omega))
  clear q0 q1 q3 q4 q5 hdp
  as_aux_lemma =>
    go_wp2_with fail
    refine HTk.out.mono ?_
    rintro e w3 ⟨rfl, vc, vo, hc, hv, hvo, hf3⟩
    have HL3 := Lib.hid (HL2.out.ticked hc hv hvo hf3)
    clear hc hv hvo hf3 HTk
    go_wp2_with fail
    go_ret
    exact ⟨rfl, _, bs, vl, sd, HL3.out, HH.out.ticked HK.out vc vo, HB.out.tick vc vo⟩
end Go.Proofs.YtbegjpmifcnieaaGreatDoor
