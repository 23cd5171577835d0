/- A client: Water, Now, and how many sendings of a call are due. -/
import Derived.Test.YtlcjfafmmoncpaaGreatDoorEg
namespace Go.Proofs.YtlcjfafmmoncpaaGreatDoor
open Go.RowKit
set_option linter.unusedVariables false
set_option linter.unusedSimpArgs false

def waterM (S : CliS) : Int := match S.calls with | [] => S.next | r :: _ => r.seq

theorem Cli.c12 {w : World} {b : Nat} {S : CliS} (h : Cli w b S) : w.cell? ⟨b, 12, none⟩ = some (.int .i64 S.next) := cellOf h.box 12
theorem Cli.c13 {w : World} {b : Nat} {S : CliS} (h : Cli w b S) : w.cell? ⟨b, 13, none⟩ = some (.int .i64 S.now) := cellOf h.box 13
theorem Cli.c14 {w : World} {b : Nat} {S : CliS} (h : Cli w b S) : w.cell? ⟨b, 14, none⟩ = some S.vc := cellOf h.box 14
theorem Cli.c15 {w : World} {b : Nat} {S : CliS} (h : Cli w b S) : w.cell? ⟨b, 15, none⟩ = some S.vo := cellOf h.box 15
/-- the row of calls, at a place. -/
theorem Cli.row {w : World} {b : Nat} {S : CliS} (h : Cli w b S) : ∃ A c, S.vc = .slice A S.calls.length c ∧ (S.calls = [] ∨ ∃ g, A = some ⟨g, 0, none⟩ ∧ ∀ j (hj : j < S.calls.length), w.cell? ⟨g, j, none⟩ = some (.pointer (some ⟨(S.calls[j]).k, 0, none⟩))) := by
  obtain ⟨A, c, e⟩ := owns_slice h.rest.own
  refine ⟨A, c, e, ?_⟩
  rcases h.rest.own.2 with ⟨h0, h1⟩ | ⟨g, cap, cur, h0, _⟩
  · exact .inl (List.length_eq_zero_iff.1 h1)
  · right
    have ho := h.rest.own
    rw [e] at h0
    injection h0 with h0
    refine ⟨g, h0, fun j hj => ?_⟩
    exact row_cell ho (by rw [e, h0]; rfl) j _ (by rw [List.getElem?_map, List.getElem?_eq_getElem hj]; rfl)

theorem Now_any {w : World} {b : Nat} {S : CliS} (h : Cli w b S) : Calls Tryz.prog 41 #[.pointer (some ⟨b, 0, none⟩)] w fun r w' => r = .returned (.int .i64 S.now) ∧ w' = w := by
  have n13 := h.c13
  clear h
  go_enter Tryz.func41, Tryz.ntmps41
  go_wp2
  go_ret
  exact ⟨rfl, rfl⟩

theorem Water_any {w : World} {b : Nat} {S : CliS} (h : Cli w b S) : Calls Tryz.prog 40 #[.pointer (some ⟨b, 0, none⟩)] w fun r w' => r = .returned (.int .i64 (waterM S)) ∧ w' = w := by
  have n12 := h.c12
  have n14 := h.c14
  obtain ⟨A, c, e, hr⟩ := h.row
  rw [e] at n14
  cases hc : S.calls with
  | nil =>
    have ew : waterM S = S.next := by unfold waterM; rw [hc]
    rw [ew]
    rw [hc] at n14
    clear h hr ew
    go_enter Tryz.func40, Tryz.ntmps40
    go_wp2
    go_ret
    exact ⟨rfl, rfl⟩
  | cons r l =>
    have ew : waterM S = r.seq := by unfold waterM; rw [hc]
    rw [ew]
    have hx := (h.rest.each r (by rw [hc]; exact List.mem_cons_self)).box
    rcases hr with h0 | ⟨g, rfl, hj⟩
    · rw [h0] at hc; cases hc
    have h0 := hj 0 (by rw [hc]; simp)
    have e0 : (S.calls[0]'(by rw [hc]; simp)) = r := by simp [hc]
    rw [e0] at h0
    have hs : w.cell? ⟨r.k, 0, none⟩ = some (.int .i64 r.seq) := cellOf hx 0
    rw [hc, List.length_cons] at n14
    have hpos : (0 : Int) < ((l.length + 1 : Nat) : Int) := by omega
    clear h hj hx e0 ew n12
    generalize l.length + 1 = m at *
    go_enter Tryz.func40, Tryz.ntmps40
    go_wp2
    go_ret
    exact ⟨rfl, rfl⟩

/-- how many sendings are due: up to the first that is not. -/
def dueFrom (p : PaceM) (iss now : Int) (k : Nat) : Nat → Int
  | 0 => k
  | d + 1 => if iss + sumN p k > now then k else dueFrom p iss now (k + 1) d
def dueM (p : PaceM) (iss now : Int) : Int := dueFrom p iss now 0 p.tries.toNat
theorem dueFrom_le (p : PaceM) (iss now : Int) : ∀ (d k : Nat), (k : Int) ≤ dueFrom p iss now k d ∧ dueFrom p iss now k d ≤ k + d := by
  intro d
  induction d with
  | zero => intro k; simp [dueFrom]
  | succ d ih =>
    intro k
    simp only [dueFrom]
    split
    · omega
    · have := ih (k + 1); omega

set_option maxRecDepth 100000 in
set_option maxHeartbeats 1000000 in
theorem due_any {w : World} {b : Nat} {S : CliS} (h : Cli w b S) (r : CallR) (hr : CallAt w b r) (hp : Right S.cfg.pace) (hi : 0 ≤ r.iss) (hi2 : r.iss ≤ 4611686018427387904) :
    Calls Tryz.prog 108 #[.pointer (some ⟨b, 0, none⟩), .pointer (some ⟨r.k, 0, none⟩)] w fun e w' => e = .returned (.int .i64 (dueM S.cfg.pace r.iss S.now)) ∧ Fr (fun _ => False) w w' := by
  have hiss : w.cell? ⟨r.k, 2, none⟩ = some (.int .i64 r.iss) := cellOf hr.box 2
  have htr : w.cell? ⟨b, 6, none⟩ = some (.int .i64 S.cfg.pace.tries) := cellOf h.box 6
  have HB := Lib.hid h.box
  have HW := Lib.hid (Wait_any S.cfg.pace)
  have HE := Lib.hid (fun n : Int => (show waitM S.cfg.pace n = waitN S.cfg.pace n.toNat by unfold waitM; rw [if_pos ((right_iff _).2 hp)]))
  have HH := Lib.hid hp
  have t1 := hp.t1
  have t2 := hp.t2
  rw [cliBox_cells] at HB
  unfold dueM
  clear hr h hp
  generalize hres : dueFrom S.cfg.pace r.iss S.now 0 S.cfg.pace.tries.toNat = res
  have HN : Hid (res = dueFrom S.cfg.pace r.iss S.now 0 (S.cfg.pace.tries.toNat - 0)) := Lib.hid hres.symm
  clear hres
  unfold paceV at *
  go_enter Tryz.func108, Tryz.ntmps108
  go_wp2
  go_loopw [5, 6, 17] (fun at' n i wr => ∃ k : Nat, (k : Int) ≤ S.cfg.pace.tries ∧ i = .int .i64 k ∧ at' = .int .i64 (r.iss + sumN S.cfg.pace k) ∧ (∃ m : Value, n = m) ∧ Hid (Fr (fun _ => False) w wr) ∧ Hid (res = dueFrom S.cfg.pace r.iss S.now k (S.cfg.pace.tries.toNat - k))) (fun _ _ i _ => S.cfg.pace.tries.toNat - (intOf i).toNat)
  case atStart => exact ⟨0, by omega, rfl, by simp [sumN], ⟨_, rfl⟩, Lib.hid (Fr.refl _ _), HN⟩
  case round =>
    obtain ⟨k, hk, rfl, rfl, ⟨m, rfl⟩, hf, hn⟩ := hrel
    clear HN
    have hx := Lib.hid ((hf.out.block _ (lt_of_block HB.out) id).trans HB.out)
    have k4 := cellOf hx.out 4
    have k5 := cellOf hx.out 5
    have k6 := cellOf hx.out 6
    have k13 := cellOf hx.out 13
    have ⟨s0, s1⟩ := sumN_bounds HH.out k
    have ⟨u0, u1⟩ := waitN_bounds HH.out k
    have u2 := HH.out.c2
    have hS : Hid (sumN S.cfg.pace (k + 1) = sumN S.cfg.pace k + waitN S.cfg.pace k) := Lib.hid rfl
    have hW : Hid (waitM S.cfg.pace (k : Int) = waitN S.cfg.pace k) := Lib.hid (HE.out k)
    by_cases hlt : (k : Int) < S.cfg.pace.tries
    · have hd : Hid (res = if r.iss + sumN S.cfg.pace k > S.now then (k : Int) else dueFrom S.cfg.pace r.iss S.now (k + 1) (S.cfg.pace.tries.toNat - (k + 1))) := Lib.hid (by
        rw [hn.out, show S.cfg.pace.tries.toNat - k = (S.cfg.pace.tries.toNat - (k + 1)) + 1 by omega]; rfl)
      clear hn
      have HC := Lib.hid (HW.out (k : Int))
      rw [hW.out] at HC
      generalize waitN S.cfg.pace k = x at u0 u1 hS HC
      generalize sumN S.cfg.pace k = s at s0 s1 hS hd
      clear HW hW HE
      by_cases hgt : r.iss + s > S.now
      · have e := hd.out
        rw [if_pos hgt] at e
        subst e
        clear hd
        go_wp2_with fail
        go_ret
        exact ⟨rfl, hf.out⟩
      · have hd2 := Lib.hid (hd.out.trans (if_neg hgt))
        clear hd
        have hgt := Int.not_lt.1 hgt
        go_wp2_with (go_at_call 150; refine (HC.out _).mono ?_; rintro e w2 ⟨rfl, hf2⟩)
        exact ⟨⟨k + 1, by omega, by go_num, by rw [hS.out]; go_num, ⟨_, rfl⟩, Lib.hid (hf.out.trans hf2), hd2⟩, by simp [intOf]; omega⟩
    · have e : res = (k : Int) := by rw [hn.out, show S.cfg.pace.tries.toNat - k = 0 by omega]; rfl
      have e2 : (k : Int) = S.cfg.pace.tries := by omega
      subst e
      clear hS hW HE HW hn s0 s1
      have E2 := Lib.hid e2
      clear e2
      go_wp2_with fail
      go_ret
      exact ⟨by rw [E2.out]; rfl, hf.out⟩
end Go.Proofs.YtlcjfafmmoncpaaGreatDoor
