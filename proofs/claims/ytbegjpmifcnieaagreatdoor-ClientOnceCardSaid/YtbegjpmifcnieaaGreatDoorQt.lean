/- callboxlaw17.ClientOnce, walked. -/
import Derived.Test.YtbegjpmifcnieaaGreatDoorQr
import Derived.Test.YtbegjpmifcnieaaGreatDoorQk
import Derived.Test.YtbegjpmifcnieaaGreatDoorEu
import Derived.Deep.CutBlock
import Derived.StillTailTactics
import Derived.Laws.Pointers
namespace Go.Proofs.YtbegjpmifcnieaaGreatDoor
open Go.RowKit
set_option linter.unusedVariables false
set_option linter.unusedSimpArgs false

theorem NewCli.cliM {c : CfgM} {w w' : World} {b : Nat} (h : NewCli c w w' b) : ∃ S, Cli w' b S ∧ S.cfg = c ∧ S.next = c.first ∧ S.now = 0 ∧ S.calls = [] ∧ S.outs = [] ∧ S.met = ⟨false, 0, 0⟩ ∧ (∀ q, Foot b S q → w.heap.size ≤ q) := by
  obtain ⟨A, n, m, h1, h2, h3, h4, h5, h6, h7⟩ := h
  refine ⟨⟨c, A, n, c.first, 0, [], .slice none 0 0, [], .slice none 0 0, m, false, 0, 0⟩, ⟨h4, ⟨h5, h6, fun a ha => ⟨(h7 a ha).2.1, fun x hx => ?_⟩, ⟨rfl, .inl ⟨rfl, rfl⟩⟩, ⟨rfl, .inl ⟨rfl, rfl⟩⟩, fun r hr => (by cases hr), List.nodup_nil⟩⟩, rfl, rfl, rfl, rfl, rfl, rfl, fun q hq => ?_⟩
  · obtain ⟨y, hy⟩ := (h7 a ha).2.2.2.2
    rw [hy] at hx
    exact ⟨y, (Option.some.inj hx).symm⟩
  · rcases hq with rfl | rfl | ⟨a, ha, rfl⟩ | e | e | ⟨r, hr, _⟩
    · exact h1
    · exact h2
    · exact (h7 a ha).1
    · cases e
    · cases e
    · cases hr
/-- a life that has just begun. -/
theorem begins {p : PaceM} {room : Int} (hp : Right p) (hr : 1 ≤ room ∧ room ≤ 6) {w0 w1 w2 : World} {b : Nat} (hn : NewCli (cfgOnce p room) w1 w2 b) (hf1 : Fr (fun _ => False) w0 w1) (hf2 : Fr (fun _ => False) w1 w2) :
    ∃ S, LifeI w0 w2.heap.size b S [] (.slice none 0 0) 0 0 (w2.alloc (.cells #[ptrV b, .slice none 0 0, .int .i64 0, .int .i64 0] 62)) ∧ Once p room 0 S [] 0 0 ∧ Beside S := by
  obtain ⟨S, hc, h1, h2, h3, h4, h5, h6, h7⟩ := hn.cliM
  have hw : waterM S = S.next := by unfold waterM; rw [h4]
  refine ⟨S, ⟨heap_alloc_new w2 _, ⟨by simp [bookRow], .inl ⟨rfl, rfl⟩⟩, hc.grown ((Fr.refl _ w2).alloc _), fun q hq => Nat.le_trans hf1.size (h7 q hq), (hf1.trans hf2).size, (hf1.trans hf2).alloc _⟩,
    ⟨hp, ⟨by rw [h2]; rfl, by rw [h4]; rfl⟩, h1, fun r hr => (by rw [h4] at hr; cases hr), fun r hr => (by rw [h4] at hr; cases hr), h5, by rw [h3]; decide, by rw [h3]; decide, Nat.le_refl _, by rw [hw]; omega, by rw [hw, h2]; show (0 : Int) ≤ 9; decide, by rw [hw, h2]; show (0 : Int) ≤ 9; decide, by decide⟩,
    ⟨⟨by rw [h6]; exact metNum_zero, by rw [h6]; exact metNum_zero⟩, fun r hr => (by rw [h4] at hr; cases hr)⟩⟩

/-- behind k steps. -/
structure OnceI (w0 : World) (x b : Nat) (p : PaceM) (room : Int) (k : Nat) (w : World) : Prop where
  st : ∃ S bs vl wt sd, LifeI w0 x b S bs vl wt sd w ∧ Once p room k S bs wt sd ∧ Beside S
set_option maxRecDepth 100000 in
set_option maxHeartbeats 4000000 in
theorem ClientOnce_any (n0 n1 n2 n3 : Int) (l : List ActM) (A : Option Addr) (c : Nat) (W : World) (hg : ErrT W) (h0 : InJ n0) (h1 : InJ n1) (h2 : InJ n2) (h3 : InJ n3) (hA : ActsAt W A l) (hal : ∀ a, A = some a → a.block < W.heap.size) (hl : l.length ≤ 8796093022208) (hi : ∀ o ∈ l, o.Is) :
    Calls Tryz.prog 4 #[.int .i64 n0, .int .i64 n1, .int .i64 n2, .int .i64 n3, .slice A l.length c] W fun e w' => e = .returned (.bool true) ∧ Fr (fun _ => False) W w' := by
  have HAw := Lib.hid (awake17_any W hg)
  have P0 := Lib.hid (fun w => pick17_any n0 5 w h0 (by decide) (by decide))
  have P1 := Lib.hid (fun w => pick17_any n1 20 w h1 (by decide) (by decide))
  have P2 := Lib.hid (fun w => pick17_any n2 5 w h2 (by decide) (by decide))
  have P3 := Lib.hid (fun w => pick17_any n3 6 w h3 (by decide) (by decide))
  obtain ⟨a0, b0⟩ := pickN_range n0 5 (by decide)
  obtain ⟨a1, b1⟩ := pickN_range n1 20 (by decide)
  obtain ⟨a2, b2⟩ := pickN_range n2 5 (by decide)
  obtain ⟨a3, b3⟩ := pickN_range n3 6 (by decide)
  generalize pickN n0 5 = q0 at *
  generalize pickN n1 20 = q1 at *
  generalize pickN n2 5 = q2 at *
  generalize pickN n3 6 = q3 at *
  have HG := Lib.hid hg
  have HS := Lib.hid hA
  have HI := Lib.hid hi
  clear hg hA hi h0 h1 h2 h3 hal
  by_cases hlen : l.length ≤ 33554431
  case neg =>
    have hd : decide ((33554431 : Int) < (l.length : Int)) = true := decide_eq_true (by omega)
    go_enter Tryz.func4, Tryz.ntmps4
    go_wp2_with fail
    go_ret
    exact ⟨rfl, Fr.refl _ _⟩
  have hd : decide ((33554431 : Int) < (l.length : Int)) = false := decide_eq_false (by omega)
  have i0 : IntKind.i64.wrap (1 + q0) = 1 + q0 := IntWalk.i64_in _ (by omega)
  have i1 : IntKind.i64.wrap (1 + q0 + q1) = 1 + q0 + q1 := IntWalk.i64_in _ (by omega)
  have i2 : IntKind.i64.wrap (1 + q2) = 1 + q2 := IntWalk.i64_in _ (by omega)
  have i3 : IntKind.i64.wrap (1 + q3) = 1 + q3 := IntWalk.i64_in _ (by omega)
  go_enter Tryz.func4, Tryz.ntmps4
  go_wp2_with fail
  refine HAw.out.mono ?_
  rintro e w1 ⟨rfl, hf1⟩
  have HF1 := Lib.hid hf1
  clear hf1 HAw
  go_wp2_with fail
  refine (P0.out _).mono ?_
  rintro e w' ⟨rfl, hw⟩
  obtain rfl : w1 = w' := hw.symm
  go_wp2_with fail
  refine (P2.out _).mono ?_
  rintro e w' ⟨rfl, hw⟩
  obtain rfl : w1 = w' := hw.symm
  have hx0 := heap_alloc_new w1 (.cells #[.int .i64 (1 + q0), .int .i64 0, .int .i64 (1 + q2)] 23)
  have hf0 : Fr (fun _ => False) w1 (w1.alloc (.cells #[.int .i64 (1 + q0), .int .i64 0, .int .i64 (1 + q2)] 23)) := (Fr.refl _ w1).alloc _
  go_upto_region 5 with fail
  generalize w1.alloc (.cells #[.int .i64 (1 + q0), .int .i64 0, .int .i64 (1 + q2)] 23) = w2 at *
  have z0 : w2.cell? ⟨w1.heap.size, 0, none⟩ = some (.int .i64 (1 + q0)) := cellOf hx0 0
  have z1 : w2.cell? ⟨w1.heap.size, 1, none⟩ = some (.int .i64 0) := cellOf hx0 1
  have fz : w2.frozen? ⟨w1.heap.size, 1, none⟩ = false := freeOf hx0 1
  have HX0 := Lib.hid hx0
  have HF0 := Lib.hid hf0
  clear hx0 hf0
  go_cut [12] from 32 to 37 (fun v wx => v = .pointer (some ⟨w1.heap.size, 0, none⟩) ∧ ∃ nq, wx = (w2.drewN nq).setCell ⟨w1.heap.size, 1, none⟩ (.int .i64 (1 + q0 + q1)))
  case first =>
    go_region_with ((go_at_call 13; refine (P1.out _).mono ?_; rintro e w5 ⟨rfl, rfl⟩))
    all_goals
      go_wp2_with fail
      go_meet
      case rel => exact ⟨rfl, 1, rfl⟩
  case rest =>
  obtain ⟨rfl, nq, hwc⟩ := hcut
  have hPc : wc.heap[w1.heap.size]? = some (.cells #[.int .i64 (1 + q0), .int .i64 (1 + q0 + q1), .int .i64 (1 + q2)] 23 (0, 0)) := by
    rw [hwc]
    exact (setOf' (show (w2.drewN nq).heap[w1.heap.size]? = _ from HX0.out) 1 _).trans rfl
  have hfc : Fr (fun _ => False) w1 wc := by
    rw [hwc]
    exact ((HF0.out.drewN nq).setCell (p := ⟨w1.heap.size, 1, none⟩) (.inr (Nat.le_refl _)) _)
  have HPc := Lib.hid hPc
  have HFc := Lib.hid (HF1.out.trans hfc)
  have c0 : wc.cell? ⟨w1.heap.size, 0, none⟩ = some (.int .i64 (1 + q0)) := cellOf hPc 0
  have c1 : wc.cell? ⟨w1.heap.size, 1, none⟩ = some (.int .i64 (1 + q0 + q1)) := cellOf hPc 1
  have c2 : wc.cell? ⟨w1.heap.size, 2, none⟩ = some (.int .i64 (1 + q2)) := cellOf hPc 2
  have HR : Hid (Right ⟨1 + q0, 1 + q0 + q1, 1 + q2⟩) := Lib.hid ⟨by show 1 ≤ 1 + q0; omega, by show 1 + q0 ≤ 1 + q0 + q1; omega, by show 1 + q0 + q1 ≤ 1048576; omega, by show 1 ≤ 1 + q2; omega, by show 1 + q2 ≤ 32; omega⟩
  have HGc := Lib.hid (HG.out.fr HFc.out id)
  have HNw : Hid (Calls Tryz.prog 17 #[.agg #[.int .i64 65537, .int .i64 5, .int .i64 9, .int .i64 (1 + q3), .int .i64 (1 + q0), .int .i64 (1 + q0 + q1), .int .i64 (1 + q2), .int .i64 0, .string ⟨#[]⟩, .int .i64 0, .int .i64 0, .slice none 0 0]] wc fun r w' => ∃ b, r = .returned (.tuple #[.pointer (some ⟨b, 0, none⟩), .int .i64 0]) ∧ Fr (fun _ => False) wc w' ∧ NewCli (cfgOnce ⟨1 + q0, 1 + q0 + q1, 1 + q2⟩ (1 + q3)) wc w' b) := Lib.hid
    (show Calls Tryz.prog 17 #[.agg (cfgCells (cfgOnce ⟨1 + q0, 1 + q0 + q1, 1 + q2⟩ (1 + q3)) none 0)] wc _ from New_yes (cfgOnce ⟨1 + q0, 1 + q0 + q1, 1 + q2⟩ (1 + q3)) none 0 wc (.inl rfl) HGc.out (fun a ha => by cases ha) (Nat.zero_le _) (Nat.zero_le _)
      ⟨by show isAddrB 65537 = true; decide, by show (1 : Int) ≤ 5; decide, by show (5 : Int) ≤ 4611686018427387904; decide, by show (1 : Int) ≤ 9; decide, by show (9 : Int) < 4294967296; decide, by show 1 ≤ 1 + q3; omega, by show 1 + q3 ≤ 64; omega, (right_iff _).2 HR.out, by show namedB sysZ = true; decide⟩)
  have hroom : 1 ≤ 1 + q3 ∧ 1 + q3 ≤ 6 := by omega
  have HRm := Lib.hid hroom
  clear hPc hfc hwc z0 z1 fz HX0 HF0 HF1 hroom
  go_wp2_with fail
  refine (P3.out _).mono ?_
  rintro e w' ⟨rfl, hw⟩
  obtain rfl : wc = w' := hw.symm
  go_wp2_with fail
  refine HNw.out.mono ?_
  rintro e w4 ⟨b, rfl, hf4, hnc⟩
  obtain ⟨S, hL, hO, hB⟩ := begins HR.out HRm.out hnc (Fr.refl _ wc) hf4
  have HI0 : Hid (OnceI wc w4.heap.size b ⟨1 + q0, 1 + q0 + q1, 1 + q2⟩ (1 + q3) 0 (w4.alloc (.cells #[ptrV b, .slice none 0 0, .int .i64 0, .int .i64 0] 62))) := Lib.hid ⟨⟨S, _, _, _, _, hL, hO, hB⟩⟩
  clear c0 c1 c2 HNw hf4 hnc hL hO hB P0 P1 P2 P3 i0 i1 i2 i3
  unfold ptrV at HI0
  generalize 1 + q0 + q1 = v1 at *
  generalize 1 + q0 = v0 at *
  generalize 1 + q2 = v2 at *
  generalize 1 + q3 = room at *
  go_wp2_with fail
  generalize w4.alloc (.cells #[.pointer (some ⟨b, 0, none⟩), .slice none 0 0, .int .i64 0, .int .i64 0] 62) = w5 at *
  go_loopw [17, 18, 19, 20] (fun i u1 u2 u3 wr => ∃ j : Nat, j ≤ l.length ∧ i = .int .i64 j ∧ (∃ v : Value, u1 = v) ∧ (∃ v : Value, u2 = v) ∧ (∃ v : Value, u3 = v) ∧ Hid (OnceI wc w4.heap.size b ⟨v0, v1, v2⟩ room j wr)) (fun i _ _ _ _ => l.length - (intOf i).toNat)
  case atStart => exact ⟨0, Nat.zero_le _, rfl, ⟨_, rfl⟩, ⟨_, rfl⟩, ⟨_, rfl⟩, HI0⟩
  case round =>
    obtain ⟨j, hj, rfl, ⟨u1, rfl⟩, ⟨u2, rfl⟩, ⟨u3, rfl⟩, hI⟩ := hrel
    clear HI0
    obtain ⟨S, bs, vl, wt, sd, hL, hO, hB⟩ := hI.out.st
    have HL := Lib.hid hL
    have HO := Lib.hid hO
    have HB := Lib.hid hB
    clear hL hO hB hI
    by_cases hlt : j < l.length
    · have hfr := HFc.out.trans HL.out.fr
      obtain ⟨g, off, rfl, k0, k1, k2⟩ := (HS.out.grown hfr).cell j hlt
      have hIs := HI.out (l.getD j actD) (by rw [show l.getD j actD = l[j] by simp [List.getD, hlt]]; exact List.getElem_mem hlt)
      generalize l.getD j actD = a at *
      have k0 : wr.cell? ⟨g, off + j * 3, none⟩ = some (.int .i64 a.kind) := k0
      have hjl : (j : Int) < (l.length : Nat) := by omega
      have hPr := (HL.out.fr.block _ (lt_of_block HPc.out) id).trans HPc.out
      have p0 : wr.cell? ⟨w1.heap.size, 0, none⟩ = some (.int .i64 v0) := cellOf hPr 0
      have p1 : wr.cell? ⟨w1.heap.size, 1, none⟩ = some (.int .i64 v1) := cellOf hPr 1
      have p2 : wr.cell? ⟨w1.heap.size, 2, none⟩ = some (.int .i64 v2) := cellOf hPr 2
      have HAc := Lib.hid (Life_acts (HL.out.step (S' := S) (w' := wr.drew) (T := fun _ => False) (HL.out.cli.keep (Nat.le_refl _) (fun _ _ => rfl)) (Fr.refl _ wr).drew (fun _ h => h.elim) (fun q hq => .inl hq)) HO.out (by omega) HB.out HGc.out a hIs HRm.out)
      clear hfr hIs hPr
      go_wp2_with fail
      go_still_tail 7, (by kernel_rfl)
      change wpList _ _ _ _ _ wr.drew
      clear k0 k1 k2 p0 p1 p2
      go_wp2_with fail
      refine HAc.out.mono ?_
      rintro e w6 ⟨rfl, S2, bs2, vl2, sd2, hL2, hH2, hB2⟩
      have HL2 := Lib.hid hL2
      have HH2 := Lib.hid hH2
      have HB2 := Lib.hid hB2
      clear hL2 hH2 hB2 HAc HL HO HB
      have hPr := (HL2.out.fr.block _ (lt_of_block HPc.out) id).trans HPc.out
      have p0 : w6.cell? ⟨w1.heap.size, 0, none⟩ = some (.int .i64 v0) := cellOf hPr 0
      have p1 : w6.cell? ⟨w1.heap.size, 1, none⟩ = some (.int .i64 v1) := cellOf hPr 1
      have p2 : w6.cell? ⟨w1.heap.size, 2, none⟩ = some (.int .i64 v2) := cellOf hPr 2
      have HEn := Lib.hid (Life_ends (p := ⟨v0, v1, v2⟩) HL2.out HH2.out)
      clear hPr
      go_wp2_with fail
      refine HEn.out.mono ?_
      rintro e w7 ⟨rfl, hL3⟩
      have HL3 := Lib.hid hL3
      have HO3 := Lib.hid (HH2.out.told (.slice none 0 0))
      have HB3 : Hid (Beside { S2 with outs := [], vo := .slice none 0 0 }) := Lib.hid ⟨HB2.out.met, HB2.out.first⟩
      clear hL3 HEn p0 p1 p2 HL2 HH2 HB2
      have hPr := (HL3.out.fr.block _ (lt_of_block HPc.out) id).trans HPc.out
      have p0 : w7.cell? ⟨w1.heap.size, 0, none⟩ = some (.int .i64 v0) := cellOf hPr 0
      have p1 : w7.cell? ⟨w1.heap.size, 1, none⟩ = some (.int .i64 v1) := cellOf hPr 1
      have p2 : w7.cell? ⟨w1.heap.size, 2, none⟩ = some (.int .i64 v2) := cellOf hPr 2
      have HSt := Lib.hid (Life_stands (p := ⟨v0, v1, v2⟩) HL3.out HO3.out)
      clear hPr
      go_wp2_with fail
      refine HSt.out.mono ?_
      rintro e w8 ⟨rfl, hL4⟩
      have HN : Hid (OnceI wc w4.heap.size b ⟨v0, v1, v2⟩ room (j + 1) w8) := Lib.hid ⟨⟨_, _, _, _, _, hL4, HO3.out.stood, HB3.out⟩⟩
      clear hL4 HSt p0 p1 p2 HL3 HO3 HB3
      go_wp2_with fail
      exact ⟨⟨j + 1, by omega, by go_num, ⟨_, rfl⟩, ⟨_, rfl⟩, ⟨_, rfl⟩, HN.out⟩, by simp [intOf]; omega⟩
    · have HE := Lib.hid (HFc.out.trans HL.out.fr)
      go_wp2_with fail
      go_ret
      exact ⟨rfl, HE.out⟩
end Go.Proofs.YtbegjpmifcnieaaGreatDoor
