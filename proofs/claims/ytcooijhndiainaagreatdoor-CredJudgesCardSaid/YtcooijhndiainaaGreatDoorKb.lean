/- The walk of CredBack: for every input it tells true. -/
import Derived.Test.YtcooijhndiainaaGreatDoorLa
import Derived.Test.YtcooijhndiainaaGreatDoorPw
import Derived.Deep.Cut
import Derived.Deep.RegionHeld3
namespace Go.Proofs.YtcooijhndiainaaGreatDoor
open Go.RowKit

theorem Fr.ofDrew {S : Nat → Prop} {a w : World} (h : Fr S a.drew w) : Fr S a w := ⟨h.os, h.tape, h.output, h.size, h.block⟩
def weighs (s : SysM) (m : MarkM) (c : CallM) : Int := addsM (addsM (sysWeighsM s) (sysWeighsM m.sys)) (callWeighsM c)
def sysCells (s : SysM) (A : Option Addr) (c : Nat) : Array Value := #[.int .i64 s.stamp, .string s.machine, .int .i64 s.user, .int .i64 s.group, .slice A s.groups.length c]
def markCells (m : MarkM) (A : Option Addr) (c : Nat) : Array Value := #[.int .i64 m.inst, .int .i64 m.seq, .int .i64 m.water, .int .i64 m.sys.stamp, .string m.sys.machine, .int .i64 m.sys.user, .int .i64 m.sys.group, .slice A m.sys.groups.length c]

theorem ParseSys_to {a : AuthM} {s : SysM} {e : Int} (h : parseSysM a = (s, e)) (w : World) (hg : ErrT w) (hs : a.body.size ≤ 1099511627776) :
    Calls Tryz.prog 20 #[.agg #[.int .i64 a.flavor, .string a.body]] w fun r w' => Fr (fun _ => False) w w' ∧ ∃ A c, r = .returned (.tuple #[.agg #[.int .i64 s.stamp, .string s.machine, .int .i64 s.user, .int .i64 s.group, .slice A s.groups.length c], .int .i64 e]) ∧ IntsAt w' A s.groups ∧ ∀ a, A = some a → a.block < w'.heap.size := by
  have k := ParseSys_any a w hg hs
  rw [h] at k
  refine k.mono ?_
  rintro r w' ⟨hf, gv, rfl, hI⟩
  obtain ⟨A, c, rfl⟩ := hI.slice
  exact ⟨hf, A, c, rfl, IntsAt.ofRow hI, fun a ha => (World.ownsRow.lt hI a.block (by rw [ha]; rfl)).2⟩
theorem ParseMark_to {a : AuthM} {m : MarkM} {e : Int} (h : parseMarkM a = (m, e)) (w : World) (hg : ErrT w) (hs : a.body.size ≤ 1099511627776) :
    Calls Tryz.prog 22 #[.agg #[.int .i64 a.flavor, .string a.body]] w fun r w' => Fr (fun _ => False) w w' ∧ ∃ A c, r = .returned (.tuple #[.agg #[.int .i64 m.inst, .int .i64 m.seq, .int .i64 m.water, .int .i64 m.sys.stamp, .string m.sys.machine, .int .i64 m.sys.user, .int .i64 m.sys.group, .slice A m.sys.groups.length c], .int .i64 e]) ∧ IntsAt w' A m.sys.groups ∧ ∀ a, A = some a → a.block < w'.heap.size := by
  have k := ParseMark_any a w hg hs
  rw [h] at k
  refine k.mono ?_
  rintro r w' ⟨hf, gv, rfl, hI⟩
  obtain ⟨A, c, rfl⟩ := hI.slice
  exact ⟨hf, A, c, rfl, IntsAt.ofRow hI, fun a ha => (World.ownsRow.lt hI a.block (by rw [ha]; rfl)).2⟩
theorem Judge_to {c : CallM} {m : MarkM} {b : Bool} {e : Int} (h : judgeM c = (m, b, e)) (w : World) (hg : ErrT w) (hs : c.cred.body.size ≤ 1099511627776) :
    Calls Tryz.prog 28 #[.agg #[.int .i64 c.xid, .int .i64 c.rpc, .int .i64 c.prog, .int .i64 c.vers, .int .i64 c.proc, .int .i64 c.cred.flavor, .string c.cred.body, .int .i64 c.verf.flavor, .string c.verf.body, .string c.args]] w fun r w' => Fr (fun _ => False) w w' ∧ ∃ A cc, r = .returned (.tuple #[.agg #[.int .i64 m.inst, .int .i64 m.seq, .int .i64 m.water, .int .i64 m.sys.stamp, .string m.sys.machine, .int .i64 m.sys.user, .int .i64 m.sys.group, .slice A m.sys.groups.length cc], .bool b, .int .i64 e]) ∧ IntsAt w' A m.sys.groups ∧ ∀ a, A = some a → a.block < w'.heap.size := by
  have k := Judge_any c w hg hs
  rw [h] at k
  refine k.mono ?_
  rintro r w' ⟨hf, gv, rfl, hI⟩
  obtain ⟨A, cc, rfl⟩ := hI.slice
  exact ⟨hf, A, cc, rfl, IntsAt.ofRow hI, fun a ha => (World.ownsRow.lt hI a.block (by rw [ha]; rfl)).2⟩
theorem PrintSys_to {s : SysM} {p1 p3 : Int} {p2 : ByteArray} (h : printSysM s = (p1, p2, p3)) (A : Option Addr) (c : Nat) (w : World) (hA : IntsAt w A s.groups) (hg : ErrT w) (hal : ∀ a, A = some a → a.block < w.heap.size) (hm : s.machine.size ≤ 1099511627776) (hgl : s.groups.length ≤ 1099511627776) :
    Calls Tryz.prog 15 #[.agg #[.int .i64 s.stamp, .string s.machine, .int .i64 s.user, .int .i64 s.group, .slice A s.groups.length c]] w fun r w' => r = .returned (.tuple #[.agg #[.int .i64 p1, .string p2], .int .i64 p3]) ∧ Fr (fun _ => False) w w' := by
  have k := PrintSys_any s A c w hA hg hal hm hgl
  rw [h] at k
  exact k
theorem PrintMark_to {m : MarkM} {p1 p3 : Int} {p2 : ByteArray} (h : printMarkM m = (p1, p2, p3)) (A : Option Addr) (c : Nat) (w : World) (hA : IntsAt w A m.sys.groups) (hg : ErrT w) (hal : ∀ a, A = some a → a.block < w.heap.size) (hm : m.sys.machine.size ≤ 1099511627776) (hgl : m.sys.groups.length ≤ 1099511627776) :
    Calls Tryz.prog 17 #[.agg #[.int .i64 m.inst, .int .i64 m.seq, .int .i64 m.water, .int .i64 m.sys.stamp, .string m.sys.machine, .int .i64 m.sys.user, .int .i64 m.sys.group, .slice A m.sys.groups.length c]] w fun r w' => r = .returned (.tuple #[.agg #[.int .i64 p1, .string p2], .int .i64 p3]) ∧ Fr (fun _ => False) w w' := by
  have k := PrintMark_any m A c w hA hg hal hm hgl
  rw [h] at k
  exact k
theorem weighs_small {s : SysM} {m : MarkM} {c : CallM} (h : ¬ 2147483647 < weighs s m c) :
    s.machine.size ≤ 1099511627776 ∧ s.groups.length ≤ 1099511627776 ∧ m.sys.machine.size ≤ 1099511627776 ∧ m.sys.groups.length ≤ 1099511627776 ∧ c.cred.body.size ≤ 1099511627776 := by
  have key : ∀ a b : Int, ¬ 2147483647 < addsM a b → a ≤ 2147483647 ∧ b ≤ 2147483647 := fun a b hab => by
    unfold addsM at hab; split at hab <;> omega
  have h0 := key _ _ h
  have h1 := key _ _ (Int.not_lt.2 h0.1)
  have h2 := key _ _ (Int.not_lt.2 h1.1)
  have h3 := key _ _ (Int.not_lt.2 h1.2)
  have h4 := key _ _ (Int.not_lt.2 h0.2)
  have h5 := key _ _ (Int.not_lt.2 h4.1)
  omega
theorem judge_no {c : CallM} (h : (judgeM c).2.1 = false) : (judgeM c).1 = zeroMark := by
  have key : (credM c).2.1 = false → (credM c).1 = zeroMark := by
    unfold credM
    repeat' split
    all_goals (intro h; first | rfl | exact absurd h (by simp))
  unfold judgeM at h ⊢
  split
  · rfl
  · rename_i hc
    rw [if_neg hc] at h
    exact key h
theorem judge_small (c : CallM) : (judgeM c).1.sys.machine.size ≤ 1099511627776 ∧ (judgeM c).1.sys.groups.length ≤ 1099511627776 := by
  by_cases h : (judgeM c).2.1 = true
  · obtain ⟨h1, h2, _⟩ := judge_mark h
    rw [h1]
    have := namedB_iff.1 (mayB_iff.1 (parseMark_yes h2).2.1).2.2.2
    simp only
    omega
  · rw [judge_no (by simpa using h)]
    exact ⟨by decide, by decide⟩
theorem must_eq {c : CallM} {t : MarkM} {g : Int} (h : parseMarkM c.cred = (t, g)) : mustB c = (decide (g = 0) && decide (t.seq = c.xid) && decide (t.water ≤ t.seq) && decide (c.verf.flavor = 0 ∧ c.verf.body.size = 0)) := by
  unfold mustB; rw [h]
theorem parseSys_small (a : AuthM) : (parseSysM a).1.machine.size ≤ 1099511627776 ∧ (parseSysM a).1.groups.length ≤ 1099511627776 := by
  by_cases h : (parseSysM a).2 = 0
  · have := namedB_iff.1 (parseSys_yes h).2.1
    omega
  · have e : (parseSysM a).1 = zeroSys := by
      unfold parseSysM at h ⊢
      split
      · split
        · rename_i h1 h2; rw [if_pos h1, if_pos h2] at h; exact absurd rfl h
        · rfl
      · rfl
    rw [e]
    exact ⟨by decide, by decide⟩
theorem sysWeighs_c (s : SysM) (A : Option Addr) (c : Nat) (w : World) : Calls Tryz.prog 12 #[.agg #[.int .i64 s.stamp, .string s.machine, .int .i64 s.user, .int .i64 s.group, .slice A s.groups.length c]] w fun r w' => r = .returned (.int .i64 (sysWeighsM s)) ∧ Fr (fun _ => False) w w' := sysWeighs_any s A c w
theorem kbS {w w' : World} {s : SysM} {m : MarkM} {c : CallM} {A B : Option Addr} {cs cm t0 t1 t2 : Nat}
    (h0 : Hid (w'.heap[w.heap.size]? = some (.cells #[.int .i64 s.stamp, .string s.machine, .int .i64 s.user, .int .i64 s.group, .slice A s.groups.length cs] t0 (0, 0))))
    (h1 : Hid (w'.heap[w.heap.size + 1]? = some (.cells #[.int .i64 m.inst, .int .i64 m.seq, .int .i64 m.water, .int .i64 m.sys.stamp, .string m.sys.machine, .int .i64 m.sys.user, .int .i64 m.sys.group, .slice B m.sys.groups.length cm] t1 (0, 0))))
    (h2 : Hid (w'.heap[w.heap.size + 1 + 1]? = some (.cells #[.int .i64 c.xid, .int .i64 c.rpc, .int .i64 c.prog, .int .i64 c.vers, .int .i64 c.proc, .int .i64 c.cred.flavor, .string c.cred.body, .int .i64 c.verf.flavor, .string c.verf.body, .string c.args] t2 (0, 0)))) :
    w'.cell? ⟨w.heap.size, 0, none⟩ = some (.int .i64 s.stamp) ∧ w'.cell? ⟨w.heap.size, 1, none⟩ = some (.string s.machine) ∧ w'.cell? ⟨w.heap.size, 2, none⟩ = some (.int .i64 s.user) ∧ w'.cell? ⟨w.heap.size, 3, none⟩ = some (.int .i64 s.group) ∧ w'.cell? ⟨w.heap.size, 4, none⟩ = some (.slice A s.groups.length cs) ∧ w'.cell? ⟨w.heap.size + 1, 3, none⟩ = some (.int .i64 m.sys.stamp) ∧ w'.cell? ⟨w.heap.size + 1, 4, none⟩ = some (.string m.sys.machine) ∧ w'.cell? ⟨w.heap.size + 1, 5, none⟩ = some (.int .i64 m.sys.user) ∧ w'.cell? ⟨w.heap.size + 1, 6, none⟩ = some (.int .i64 m.sys.group) ∧ w'.cell? ⟨w.heap.size + 1, 7, none⟩ = some (.slice B m.sys.groups.length cm) ∧ w'.cell? ⟨w.heap.size + 1 + 1, 0, none⟩ = some (.int .i64 c.xid) ∧ w'.cell? ⟨w.heap.size + 1 + 1, 1, none⟩ = some (.int .i64 c.rpc) ∧ w'.cell? ⟨w.heap.size + 1 + 1, 2, none⟩ = some (.int .i64 c.prog) ∧ w'.cell? ⟨w.heap.size + 1 + 1, 3, none⟩ = some (.int .i64 c.vers) ∧ w'.cell? ⟨w.heap.size + 1 + 1, 4, none⟩ = some (.int .i64 c.proc) ∧ w'.cell? ⟨w.heap.size + 1 + 1, 5, none⟩ = some (.int .i64 c.cred.flavor) ∧ w'.cell? ⟨w.heap.size + 1 + 1, 6, none⟩ = some (.string c.cred.body) ∧ w'.cell? ⟨w.heap.size + 1 + 1, 7, none⟩ = some (.int .i64 c.verf.flavor) ∧ w'.cell? ⟨w.heap.size + 1 + 1, 8, none⟩ = some (.string c.verf.body) ∧ w'.cell? ⟨w.heap.size + 1 + 1, 9, none⟩ = some (.string c.args) :=
  ⟨cellOf h0.out 0, cellOf h0.out 1, cellOf h0.out 2, cellOf h0.out 3, cellOf h0.out 4, cellOf h1.out 3, cellOf h1.out 4, cellOf h1.out 5, cellOf h1.out 6, cellOf h1.out 7, cellOf h2.out 0, cellOf h2.out 1, cellOf h2.out 2, cellOf h2.out 3, cellOf h2.out 4, cellOf h2.out 5, cellOf h2.out 6, cellOf h2.out 7, cellOf h2.out 8, cellOf h2.out 9⟩

set_option maxRecDepth 100000 in
set_option maxHeartbeats 4000000 in
theorem CredBack_any (s : SysM) (A : Option Addr) (cs : Nat) (m : MarkM) (B : Option Addr) (cm : Nat) (c : CallM) (w : World) (hA : IntsAt w A s.groups) (hB : IntsAt w B m.sys.groups) (hg : ErrT w)
    (hal : ∀ a, A = some a → a.block < w.heap.size) (hbl : ∀ a, B = some a → a.block < w.heap.size) :
    Calls Tryz.prog 6 #[.agg (sysCells s A cs), .agg (markCells m B cm), .agg (callCells c)] w fun r w' => r = .returned (.bool true) ∧ Fr (fun _ => False) w w' := by
  have hb3 := Lib.hid ((((Below.refl _ _).alloc (Nat.le_refl _) _).alloc (by simp) _).alloc (by simp; omega) _ : Below w.heap.size w (((w.alloc (.cells (sysCells s A cs) 24)).alloc (.cells (markCells m B cm) 26)).alloc (.cells (callCells c) 50)))
  have hx2 := Lib.hid (heap_three (w := w) (a := .cells (sysCells s A cs) 24) (b := .cells (markCells m B cm) 26) (c := .cells (callCells c) 50))
  have hx1 := Lib.hid (heap_old (o := .cells (callCells c) 50) (heap_two (w := w) (a := .cells (sysCells s A cs) 24) (b := .cells (markCells m B cm) 26)))
  have hx0 := Lib.hid (heap_old (o := .cells (callCells c) 50) (heap_old (o := .cells (markCells m B cm) 26) (heap_alloc_new w (.cells (sysCells s A cs) 24))))
  have hlt : 2 ≤ (((w.alloc (.cells (sysCells s A cs) 24)).alloc (.cells (markCells m B cm) 26)).alloc (.cells (callCells c) 50)).heap.size - w.heap.size := by simp; omega
  have HA := Lib.hid hA
  have HB := Lib.hid hB
  have HG := Lib.hid hg
  have HAL := Lib.hid hal
  have HBL := Lib.hid hbl
  have HL := Lib.hid hlt
  clear hA hB hg hal hbl hlt
  unfold sysCells markCells callCells at *
  go_enter Tryz.func6, Tryz.ntmps6
  go_upto_region 1 with fail
  generalize ((w.alloc _).alloc _).alloc _ = w3 at *
  have hWc := Lib.hid (fun w => callWeighs_any c w)
  unfold callCells at hWc
  have hWn : Hid (0 ≤ sysWeighsM s ∧ 0 ≤ sysWeighsM m.sys ∧ 0 ≤ callWeighsM c) := Lib.hid ⟨addsM_nonneg (by omega) (by omega), addsM_nonneg (by omega) (by omega), addsM_nonneg (addsM_nonneg (by omega) (by omega)) (by omega)⟩
  have hfw : Fr (fun _ => False) w3 w3 := Fr.refl _ _
  go_cut [43] from 34 (fun b wx => b = .bool (decide (2147483647 < weighs s m c)) ∧ Fr (fun _ => False) w3 wx)
  --<FIRST
  case first => as_aux_lemma =>
    go_region_held3 (fun w' => w'.cell? ⟨w.heap.size, 0, none⟩ = some (.int .i64 s.stamp) ∧ w'.cell? ⟨w.heap.size, 1, none⟩ = some (.string s.machine) ∧ w'.cell? ⟨w.heap.size, 2, none⟩ = some (.int .i64 s.user) ∧ w'.cell? ⟨w.heap.size, 3, none⟩ = some (.int .i64 s.group) ∧ w'.cell? ⟨w.heap.size, 4, none⟩ = some (.slice A s.groups.length cs) ∧ w'.cell? ⟨w.heap.size + 1, 3, none⟩ = some (.int .i64 m.sys.stamp) ∧ w'.cell? ⟨w.heap.size + 1, 4, none⟩ = some (.string m.sys.machine) ∧ w'.cell? ⟨w.heap.size + 1, 5, none⟩ = some (.int .i64 m.sys.user) ∧ w'.cell? ⟨w.heap.size + 1, 6, none⟩ = some (.int .i64 m.sys.group) ∧ w'.cell? ⟨w.heap.size + 1, 7, none⟩ = some (.slice B m.sys.groups.length cm) ∧ w'.cell? ⟨w.heap.size + 1 + 1, 0, none⟩ = some (.int .i64 c.xid) ∧ w'.cell? ⟨w.heap.size + 1 + 1, 1, none⟩ = some (.int .i64 c.rpc) ∧ w'.cell? ⟨w.heap.size + 1 + 1, 2, none⟩ = some (.int .i64 c.prog) ∧ w'.cell? ⟨w.heap.size + 1 + 1, 3, none⟩ = some (.int .i64 c.vers) ∧ w'.cell? ⟨w.heap.size + 1 + 1, 4, none⟩ = some (.int .i64 c.proc) ∧ w'.cell? ⟨w.heap.size + 1 + 1, 5, none⟩ = some (.int .i64 c.cred.flavor) ∧ w'.cell? ⟨w.heap.size + 1 + 1, 6, none⟩ = some (.string c.cred.body) ∧ w'.cell? ⟨w.heap.size + 1 + 1, 7, none⟩ = some (.int .i64 c.verf.flavor) ∧ w'.cell? ⟨w.heap.size + 1 + 1, 8, none⟩ = some (.string c.verf.body) ∧ w'.cell? ⟨w.heap.size + 1 + 1, 9, none⟩ = some (.string c.args)) (first | exact kbS hx0 hx1 hx2) (first
      | (go_at_call 12; refine (sysWeighs_c _ _ _ _).mono ?_; rintro e w4 ⟨rfl, hf4⟩; (try have hf4 := Fr.ofDrew hf4); have hx0 := hidMove hx0 hf4 id; have hx1 := hidMove hx1 hf4 id; have hx2 := hidMove hx2 hf4 id; have hfw := hfw.then hf4 (fun _ _ h => h))
      | (go_at_call 27; refine (hWc.out _).mono ?_; rintro e w4 ⟨rfl, hf4⟩; (try have hf4 := Fr.ofDrew hf4); have hx0 := hidMove hx0 hf4 id; have hx1 := hidMove hx1 hf4 id; have hx2 := hidMove hx2 hf4 id; have hfw := hfw.then hf4 (fun _ _ h => h))
      | (go_at_call 11; refine (addsUp_same _ _ _ (by first | exact hWn.out.1 | exact addsM_nonneg hWn.out.1 hWn.out.2.1) (by first | exact hWn.out.2.1 | exact hWn.out.2.2)).mono ?_; rintro e w4 ⟨rfl, rfl⟩))
    go_wp2_with fail
    go_meet
    case rel => exact ⟨rfl, hfw⟩
  -->FIRST
  case rest =>
    obtain ⟨rfl, hfc⟩ := hcut
    clear hfw hWn hWc
    have h3 := (Fr.ofBelow (S := fun _ => False) hb3.out)
    by_cases hW : 2147483647 < weighs s m c
    · go_wp2
      go_ret
      exact ⟨rfl, h3.then hfc (fun _ _ h => h)⟩
    have HW := Lib.hid hW
    have hW' : decide (2147483647 < weighs s m c) = false := decide_eq_false hW
    rw [hW']
    clear hW hW' hb3
    have HA3 := Lib.hid (HA.out.fr h3 (fun _ _ h => h))
    have HB3 := Lib.hid (HB.out.fr h3 (fun _ _ h => h))
    have HG3 := Lib.hid (HG.out.fr h3 id)
    have HAL3 := Lib.hid (fun a h => Nat.lt_of_lt_of_le (HAL.out a h) h3.size)
    have HBL3 := Lib.hid (fun a h => Nat.lt_of_lt_of_le (HBL.out a h) h3.size)
    have H3 := Lib.hid h3
    clear HA HB HG HAL HBL h3
    have HS := Lib.hid (weighs_small HW.out)
    go_wp2_with fail
    refine (awake_any _ (HG3.out.fr hfc id)).mono ?_
    rintro e w5 ⟨rfl, hf5⟩
    have hfc := hfc.then hf5 (fun _ _ h => h)
    clear hf5
    obtain ⟨s0, s1, s2, s3, s4⟩ := box5 (hidMove hx0 hfc id)
    have hl0 : w.heap.size < w5.heap.size := lt_of_block (hidMove hx0 hfc id).out
    go_wp2_with fail
    obtain ⟨p1, p2, p3, hp⟩ : ∃ p1 p2 p3, printSysM s = (p1, p2, p3) := ⟨_, _, _, rfl⟩
    refine (PrintSys_to hp A cs _ (HA3.out.fr hfc (fun _ _ h => h)) (HG3.out.fr hfc id) (fun a h => Nat.lt_of_lt_of_le (HAL3.out a h) hfc.size) HS.out.1 HS.out.2.1).mono ?_
    rintro e w6 ⟨rfl, hf6⟩
    have hfc := hfc.then hf6 (fun _ _ h => h)
    clear hf6 s0 s1 s2 s3 s4
    have HP := Lib.hid hp
    clear hp
    go_upto_if 51 with fail
    go_cut [9] from 34 (fun _ wx => Fr (fun _ => False) w3 wx)
    --<FIRST
    case first => as_aux_lemma =>
      by_cases hn : namedB s = true
      · have hq := printSys_yes hn
        rw [HP.out] at hq
        obtain ⟨rfl, hq2, rfl⟩ : p1 = 1 ∧ p2 = sysStr s ∧ p3 = 0 := by simpa using hq
        have hb := sysStr_bound hn
        have hPS := parseSys_print hn
        have hPM := parseMark_other (a := ⟨1, sysStr s⟩) (show (1 : Int) ≠ 1296126539 by decide)
        rw [← hq2] at hb hPS hPM
        clear hq hq2 hn HP
        have HPS := Lib.hid hPS
        have HPM := Lib.hid hPM
        have HBd := Lib.hid hb
        clear hPS hPM hb
        have ha := Lib.hid (heap_alloc_new w6 (.cells #[.int .i64 1, .string p2] 32))
        have hfc := hfc.alloc (.cells #[.int .i64 1, .string p2] 32)
        go_wp2_with fail
        refine (ParseSys_to (a := ⟨1, p2⟩) HPS.out _ (HG3.out.fr hfc id) (by have := HBd.out.1; simp only; omega)).mono ?_
        rintro e w7 ⟨hf7, A7, c7, rfl, hI7, hIl7⟩
        have hfc := (hfc.then hf7 (fun _ _ h => h)).alloc (.cells #[.int .i64 s.stamp, .string s.machine, .int .i64 s.user, .int .i64 s.group, .slice A7 s.groups.length c7] 24)
        have ha := Lib.hid (heap_old (o := (.cells #[.int .i64 s.stamp, .string s.machine, .int .i64 s.user, .int .i64 s.group, .slice A7 s.groups.length c7] 24)) (hidMove ha hf7 id).out)
        have hi7 := hI7.fr ((Fr.refl (fun _ => False) _).alloc (.cells #[.int .i64 s.stamp, .string s.machine, .int .i64 s.user, .int .i64 s.group, .slice A7 s.groups.length c7] 24)) (fun _ _ h => h)
        clear hf7 hI7 hIl7
        obtain ⟨s0, s1, s2, s3, s4⟩ := box5 (hidMove hx0 hfc id)
        have hl0 : w.heap.size < w7.heap.size + 1 := by have := lt_of_block (hidMove hx0 hfc id).out; simpa using this
        have HI7 := Lib.hid hi7
        clear hi7
        go_wp2_with fail
        refine (syses_same s A A7 cs c7 _ (HA3.out.fr hfc (fun _ _ h => h)) HI7.out HS.out.2.1).mono ?_
        rintro e w8 ⟨rfl, hf8⟩
        clear HI7 s0 s1 s2 s3 s4 hl0
        have hfc := hfc.then hf8 (fun _ _ h => h)
        have ha := hidMove ha hf8 id
        clear hf8
        obtain ⟨a0, a1, _, _⟩ := box2 ha
        have hl6 : w6.heap.size < w8.heap.size := lt_of_block ha.out
        go_wp2_with fail
        refine (ParseMark_to (a := ⟨1, p2⟩) HPM.out _ (HG3.out.fr hfc id) (by have := HBd.out.1; simp only; omega)).mono ?_
        rintro e w9 ⟨hf9, A9, c9, rfl, _, _⟩
        clear a0 a1 hl6
        have hfc := (hfc.then hf9 (fun _ _ h => h)).alloc (.cells #[.int .i64 zeroMark.inst, .int .i64 zeroMark.seq, .int .i64 zeroMark.water, .int .i64 zeroMark.sys.stamp, .string zeroMark.sys.machine, .int .i64 zeroMark.sys.user, .int .i64 zeroMark.sys.group, .slice A9 zeroMark.sys.groups.length c9] 26)
        have ha := Lib.hid (heap_old (o := .cells #[.int .i64 zeroMark.inst, .int .i64 zeroMark.seq, .int .i64 zeroMark.water, .int .i64 zeroMark.sys.stamp, .string zeroMark.sys.machine, .int .i64 zeroMark.sys.user, .int .i64 zeroMark.sys.group, .slice A9 zeroMark.sys.groups.length c9] 26) (hidMove ha hf9 id).out)
        obtain ⟨a0, a1, _, _⟩ := box2 ha
        have hl6 : w6.heap.size < w9.heap.size + 1 := by have := lt_of_block ha.out; simpa using this
        have hz1 : (p2.size : Int) ≤ 340 := by have := HBd.out.1; omega
        have hz2 : (p2.size : Int) % 4 = 0 := by have := HBd.out.2; omega
        have hz3 : (p2.size : Int).tmod 4 = 0 := by rw [Int.tmod_eq_emod_of_nonneg (by omega)]; exact hz2
        go_wp2_with fail
        go_meet
        case rel => exact hfc
      · have hq := printSys_no hn
        rw [HP.out] at hq
        obtain ⟨rfl, rfl, rfl⟩ : p1 = 0 ∧ p2 = ByteArray.empty ∧ p3 = 110 := by simpa using hq
        clear hq
        go_wp2_with fail
        go_meet
        case rel => exact hfc.alloc _
    -->FIRST
    case rest =>
      clear hfc
      have hfc := hcut
      clear hcut HP
      obtain ⟨m0, m1, m2, m3, m4, m5, m6, m7⟩ := box8 (hidMove hx1 hfc id)
      have hl1 : w.heap.size + 1 < wc.heap.size := lt_of_block (hidMove hx1 hfc id).out
      go_wp2_with fail
      obtain ⟨q1, q2, q3, hp⟩ : ∃ p1 p2 p3, printMarkM m = (p1, p2, p3) := ⟨_, _, _, rfl⟩
      refine (PrintMark_to hp B cm _ (HB3.out.fr hfc (fun _ _ h => h)) (HG3.out.fr hfc id) (fun a h => Nat.lt_of_lt_of_le (HBL3.out a h) hfc.size) HS.out.2.2.1 HS.out.2.2.2.1).mono ?_
      rintro e v6 ⟨rfl, hf6⟩
      have hfc := hfc.then hf6 (fun _ _ h => h)
      clear hf6 m0 m1 m2 m3 m4 m5 m6 m7
      have HP := Lib.hid hp
      clear hp
      go_upto_if 99 with fail
      go_cut [9] from 34 (fun _ wx => Fr (fun _ => False) w3 wx)
      --<FIRST
      case first => as_aux_lemma =>
        by_cases hn : mayB m = true
        · have hq := printMark_yes hn
          rw [HP.out] at hq
          obtain ⟨rfl, hq2, rfl⟩ : q1 = 1296126539 ∧ q2 = markStr m ∧ q3 = 0 := by simpa using hq
          have hb : (markStr m).size ≤ 364 ∧ (markStr m).size % 4 = 0 ∧ 24 ≤ (markStr m).size := by
            have := sysStr_bound (mayB_iff.1 hn).2.2.2
            rw [markStr_size]; omega
          have hPM := parseMark_print hn
          have hPS := parseSys_print (mayB_iff.1 hn).2.2.2
          rw [← markStr_tail] at hPS
          rw [← hq2] at hb hPS hPM
          clear hq hq2 hn HP
          have HPS := Lib.hid hPS
          have HPM := Lib.hid hPM
          have HBd := Lib.hid hb
          clear hPS hPM hb
          have ha := Lib.hid (heap_alloc_new v6 (.cells #[.int .i64 1296126539, .string q2] 32))
          have hfc := hfc.alloc (.cells #[.int .i64 1296126539, .string q2] 32)
          go_wp2_with fail
          refine (ParseMark_to (a := ⟨1296126539, q2⟩) HPM.out _ (HG3.out.fr hfc id) (by have := HBd.out.1; simp only; omega)).mono ?_
          rintro e w7 ⟨hf7, A7, c7, rfl, hI7, hIl7⟩
          have hfc := (hfc.then hf7 (fun _ _ h => h)).alloc (.cells #[.int .i64 m.inst, .int .i64 m.seq, .int .i64 m.water, .int .i64 m.sys.stamp, .string m.sys.machine, .int .i64 m.sys.user, .int .i64 m.sys.group, .slice A7 m.sys.groups.length c7] 26)
          have ha := Lib.hid (heap_old (o := (.cells #[.int .i64 m.inst, .int .i64 m.seq, .int .i64 m.water, .int .i64 m.sys.stamp, .string m.sys.machine, .int .i64 m.sys.user, .int .i64 m.sys.group, .slice A7 m.sys.groups.length c7] 26)) (hidMove ha hf7 id).out)
          have hi7 := hI7.fr ((Fr.refl (fun _ => False) _).alloc (.cells #[.int .i64 m.inst, .int .i64 m.seq, .int .i64 m.water, .int .i64 m.sys.stamp, .string m.sys.machine, .int .i64 m.sys.user, .int .i64 m.sys.group, .slice A7 m.sys.groups.length c7] 26)) (fun _ _ h => h)
          clear hf7 hI7 hIl7
          obtain ⟨m0, m1, m2, m3, m4, m5, m6, m7⟩ := box8 (hidMove hx1 hfc id)
          have hl1 : w.heap.size + 1 < w7.heap.size + 1 := by have := lt_of_block (hidMove hx1 hfc id).out; simpa using this
          have HI7 := Lib.hid hi7
          clear hi7
          go_wp2_with fail
          refine (marks_same m B A7 cm c7 _ (HB3.out.fr hfc (fun _ _ h => h)) HI7.out HS.out.2.2.2.1).mono ?_
          rintro e w8 ⟨rfl, hf8⟩
          clear HI7 m0 m1 m2 m3 m4 m5 m6 m7 hl1
          have hfc := hfc.then hf8 (fun _ _ h => h)
          have ha := hidMove ha hf8 id
          clear hf8
          obtain ⟨a0, a1, _, _⟩ := box2 ha
          have hl6 : v6.heap.size < w8.heap.size := lt_of_block ha.out
          have h24 : (24 : Int) ≤ q2.size := by have := HBd.out.2.2; omega
          go_wp2_with fail
          refine (ParseSys_to (a := ⟨1, q2.extract 24 q2.size⟩) HPS.out _ (HG3.out.fr hfc id) (by have := HBd.out.1; simp only [ByteArray.size_extract]; omega)).mono ?_
          rintro e w9 ⟨hf9, A9, c9, rfl, hI9, hIl9⟩
          clear a0 a1 hl6
          have hfc := (hfc.then hf9 (fun _ _ h => h)).alloc (.cells #[.int .i64 m.sys.stamp, .string m.sys.machine, .int .i64 m.sys.user, .int .i64 m.sys.group, .slice A9 m.sys.groups.length c9] 24)
          have ha := Lib.hid (heap_old (o := (.cells #[.int .i64 m.sys.stamp, .string m.sys.machine, .int .i64 m.sys.user, .int .i64 m.sys.group, .slice A9 m.sys.groups.length c9] 24)) (hidMove ha hf9 id).out)
          have hi9 := hI9.fr ((Fr.refl (fun _ => False) _).alloc (.cells #[.int .i64 m.sys.stamp, .string m.sys.machine, .int .i64 m.sys.user, .int .i64 m.sys.group, .slice A9 m.sys.groups.length c9] 24)) (fun _ _ h => h)
          clear hf9 hI9 hIl9
          have HI9 := Lib.hid hi9
          clear hi9
          obtain ⟨m0, m1, m2, m3, m4, m5, m6, m7⟩ := box8 (hidMove hx1 hfc id)
          have hl1 : w.heap.size + 1 < w9.heap.size + 1 := by have := lt_of_block (hidMove hx1 hfc id).out; simpa using this
          go_wp2_with fail
          refine (syses_same m.sys A9 B c9 cm _ HI9.out (HB3.out.fr hfc (fun _ _ h => h)) HS.out.2.2.2.1).mono ?_
          rintro e w10 ⟨rfl, hf10⟩
          clear HI9 m0 m1 m2 m3 m4 m5 m6 m7 hl1
          have hfc := hfc.then hf10 (fun _ _ h => h)
          have ha := hidMove ha hf10 id
          clear hf10
          obtain ⟨a0, a1, _, _⟩ := box2 ha
          have hl6 : v6.heap.size < w10.heap.size := lt_of_block ha.out
          have hz1 : (q2.size : Int) ≤ 364 := by have := HBd.out.1; omega
          have hz2 : (q2.size : Int) % 4 = 0 := by have := HBd.out.2.1; omega
          have hz3 : (q2.size : Int).tmod 4 = 0 := by rw [Int.tmod_eq_emod_of_nonneg (by omega)]; exact hz2
          go_wp2_with fail
          go_meet
          case rel => exact hfc
        · have hq := printMark_no hn
          rw [HP.out] at hq
          obtain ⟨rfl, rfl, rfl⟩ : q1 = 0 ∧ q2 = ByteArray.empty ∧ q3 = 110 := by simpa using hq
          clear hq
          go_wp2_with fail
          go_meet
          case rel => exact hfc.alloc _
      -->FIRST
      case rest =>
        clear hfc
        have hfc := hcut
        clear hcut HP hl1
        obtain ⟨k0, k1, k2, k3, k4, k5, k6, k7, k8, k9⟩ := box10 (hidMove hx2 hfc id)
        have hl2 : w.heap.size + 1 + 1 < wc.heap.size := lt_of_block (hidMove hx2 hfc id).out
        go_wp2_with fail
        obtain ⟨n, is, why, hj⟩ : ∃ n is why, judgeM c = (n, is, why) := ⟨_, _, _, rfl⟩
        refine (Judge_to hj _ (HG3.out.fr hfc id) HS.out.2.2.2.2).mono ?_
        rintro e x1 ⟨hf1, A1, c1, rfl, hI1, hIl1⟩
        clear k0 k1 k2 k3 k4 k5 k6 k7 k8 k9 hl2
        have hfc := (hfc.then hf1 (fun _ _ h => h)).alloc (.cells #[.int .i64 n.inst, .int .i64 n.seq, .int .i64 n.water, .int .i64 n.sys.stamp, .string n.sys.machine, .int .i64 n.sys.user, .int .i64 n.sys.group, .slice A1 n.sys.groups.length c1] 26)
        have hi1 := hI1.fr ((Fr.refl (fun _ => False) _).alloc (.cells #[.int .i64 n.inst, .int .i64 n.seq, .int .i64 n.water, .int .i64 n.sys.stamp, .string n.sys.machine, .int .i64 n.sys.user, .int .i64 n.sys.group, .slice A1 n.sys.groups.length c1] 26)) (fun _ _ h => h)
        have hn := Lib.hid (heap_alloc_new x1 (.cells #[.int .i64 n.inst, .int .i64 n.seq, .int .i64 n.water, .int .i64 n.sys.stamp, .string n.sys.machine, .int .i64 n.sys.user, .int .i64 n.sys.group, .slice A1 n.sys.groups.length c1] 26))
        have HI1 := Lib.hid hi1
        have HIL := Lib.hid hIl1
        have HJ := Lib.hid hj
        clear hf1 hi1 hI1 hIl1 hj
        go_wp2_with fail
        obtain ⟨f1, f2, f3, hp⟩ : ∃ p1 p2 p3, printMarkM n = (p1, p2, p3) := ⟨_, _, _, rfl⟩
        have hsm := judge_small c
        rw [HJ.out] at hsm
        refine (PrintMark_to hp A1 c1 _ HI1.out (HG3.out.fr hfc id) (fun a h => by have := HIL.out a h; simp; omega) hsm.1 hsm.2).mono ?_
        rintro e x2 ⟨rfl, hf2⟩
        have hfc := (hfc.then hf2 (fun _ _ h => h)).alloc (.cells #[.int .i64 f1, .string f2] 32)
        have hn := Lib.hid (heap_old (o := .cells #[.int .i64 f1, .string f2] 32) (hidMove hn hf2 id).out)
        have hd := Lib.hid (heap_alloc_new x2 (.cells #[.int .i64 f1, .string f2] 32))
        have HP := Lib.hid hp
        clear hf2 hsm HI1 HIL hp
        go_upto_region 21 with fail
        go_cut [23, 197] from 34 (fun j b wx => j = .bool is ∧ b = .bool false ∧ Fr (fun _ => False) w3 wx)
        --<FIRST
        case first => as_aux_lemma =>
          cases is with
          | false =>
            go_wp2_with fail
            go_meet
            case rel => exact ⟨rfl, rfl, hfc⟩
          | true =>
            obtain ⟨g1, g2, g3, g4, g5, g6⟩ := judge_mark (c := c) (by rw [HJ.out])
            rw [HJ.out] at g1
            obtain ⟨e1, rfl⟩ : n = (parseMarkM c.cred).1 ∧ why = 0 := by simpa using g1
            have g7 := print_parseMark g2
            rw [← e1, HP.out] at g7
            rw [← e1] at g3 g4
            obtain ⟨rfl, rfl, rfl⟩ : f1 = c.cred.flavor ∧ f2 = c.cred.body ∧ f3 = 0 := by simpa using g7
            clear g1 g2 g7 HP HJ e1
            have b1 : (n.seq != c.xid) = false := by rw [bne_eq_false_iff_eq]; exact g3
            have b2 : (c.verf.flavor == 0) = true := by rw [beq_iff_eq]; exact g5
            have b3 : c.verf.body.toList.isEmpty = true := by rw [isEmpty_size]; simp [g6]
            clear g3 g5 g6
            obtain ⟨k0, k1, k2, k3, k4, k5, k6, k7, k8, k9⟩ := box10 (hidMove hx2 hfc id)
            obtain ⟨m0, m1, m2, m3, m4, m5, m6, m7⟩ := box8 hn
            have hl2 : w.heap.size + 1 + 1 < x2.heap.size + 1 := by have := lt_of_block (hidMove hx2 hfc id).out; simpa using this
            have hl1 : x1.heap.size < x2.heap.size + 1 := by have := lt_of_block hn.out; simpa using this
            go_wp2_with fail
            go_meet
            case rel => exact ⟨rfl, by rw [decide_eq_false (Int.not_lt.2 g4)], hfc⟩
        -->FIRST
        case rest =>
          obtain ⟨rfl, rfl, hfd⟩ := hcut
          have hi : is = mustB c := by rw [← judge_is, HJ.out]
          clear HP HJ hn hd hfc
          subst hi
          obtain ⟨k0, k1, k2, k3, k4, k5, k6, k7, k8, k9⟩ := box10 (hidMove hx2 hfd id)
          have hl2 : w.heap.size + 1 + 1 < wc.heap.size := lt_of_block (hidMove hx2 hfd id).out
          go_wp2_with fail
          obtain ⟨t, g, ht⟩ : ∃ t g, parseMarkM c.cred = (t, g) := ⟨_, _, rfl⟩
          refine (ParseMark_to ht _ (HG3.out.fr hfd id) HS.out.2.2.2.2).mono ?_
          rintro e y1 ⟨hf1, A1, c1, rfl, _, _⟩
          clear k0 k1 k2 k3 k4 k5 k6 k7 k8 k9 hl2
          have hfe := (hfd.then hf1 (fun _ _ h => h)).alloc (.cells #[.int .i64 t.inst, .int .i64 t.seq, .int .i64 t.water, .int .i64 t.sys.stamp, .string t.sys.machine, .int .i64 t.sys.user, .int .i64 t.sys.group, .slice A1 t.sys.groups.length c1] 26)
          have hn := Lib.hid (heap_alloc_new y1 (.cells #[.int .i64 t.inst, .int .i64 t.seq, .int .i64 t.water, .int .i64 t.sys.stamp, .string t.sys.machine, .int .i64 t.sys.user, .int .i64 t.sys.group, .slice A1 t.sys.groups.length c1] 26))
          have HT := Lib.hid ht
          clear hf1 ht hfd
          go_upto_region 24 with fail
          go_cut [29] from 34 (fun j wx => j = .bool (mustB c) ∧ Fr (fun _ => False) w3 wx)
          --<FIRST
          case first => as_aux_lemma =>
            obtain ⟨k0, k1, k2, k3, k4, k5, k6, k7, k8, k9⟩ := box10 (hidMove hx2 hfe id)
            have hl2 : w.heap.size + 1 + 1 < y1.heap.size + 1 := by have := lt_of_block (hidMove hx2 hfe id).out; simpa using this
            have hm := must_eq HT.out
            by_cases g1 : g = 0
            · have b1 : (g == 0) = true := by rw [beq_iff_eq]; exact g1
              by_cases g2 : t.seq = c.xid
              · have b2 : (t.seq == c.xid) = true := by rw [beq_iff_eq]; exact g2
                by_cases g3 : t.water ≤ t.seq
                · by_cases g4 : c.verf.flavor = 0
                  · have b4 : (c.verf.flavor == 0) = true := by rw [beq_iff_eq]; exact g4
                    by_cases g5 : c.verf.body.size = 0
                    · have b5 : c.verf.body.toList.isEmpty = true := by rw [isEmpty_size]; simp [g5]
                      have e : mustB c = true := by rw [hm]; simp [g1, g2, g4, g5]; rw [← g2]; exact g3
                      have HE := Lib.hid e
                      clear hm e HT g1 g2 g4 g5
                      go_wp2_with fail
                      go_meet
                      case rel => exact ⟨by rw [HE.out], hfe⟩
                    · have b5 : c.verf.body.toList.isEmpty = false := by rw [isEmpty_size]; simp [g5]
                      have e : mustB c = false := by rw [hm]; simp [g5]
                      have HE := Lib.hid e
                      clear hm e HT g1 g2 g4 g5
                      go_wp2_with fail
                      go_meet
                      case rel => exact ⟨by rw [HE.out], hfe⟩
                  · have b4 : (c.verf.flavor == 0) = false := by rw [beq_eq_false_iff_ne]; exact g4
                    have e : mustB c = false := by rw [hm]; simp [g4]
                    have HE := Lib.hid e
                    clear hm e HT g1 g2 g4
                    go_wp2_with fail
                    go_meet
                    case rel => exact ⟨by rw [HE.out], hfe⟩
                · have e : mustB c = false := by rw [hm]; simp [g3]
                  have HE := Lib.hid e
                  have b3 : t.seq < t.water := Int.not_le.1 g3
                  clear hm e HT g1 g2 g3
                  go_wp2_with fail
                  go_meet
                  case rel => exact ⟨by rw [HE.out], hfe⟩
              · have b2 : (t.seq == c.xid) = false := by rw [beq_eq_false_iff_ne]; exact g2
                have e : mustB c = false := by rw [hm]; simp [g2]
                have HE := Lib.hid e
                clear hm e HT g1 g2
                go_wp2_with fail
                go_meet
                case rel => exact ⟨by rw [HE.out], hfe⟩
            · have b1 : (g == 0) = false := by rw [beq_eq_false_iff_ne]; exact g1
              have e : mustB c = false := by rw [hm]; simp [g1]
              have HE := Lib.hid e
              clear hm e HT g1
              go_wp2_with fail
              go_meet
              case rel => exact ⟨by rw [HE.out], hfe⟩
          -->FIRST
          case rest =>
            obtain ⟨rfl, hff⟩ := hcut
            clear hfe HT hn
            obtain ⟨k0, k1, k2, k3, k4, k5, k6, k7, k8, k9⟩ := box10 (hidMove hx2 hff id)
            have hl2 : w.heap.size + 1 + 1 < wc.heap.size := lt_of_block (hidMove hx2 hff id).out
            go_wp2_with fail
            obtain ⟨x, h, hx⟩ : ∃ x h, parseSysM c.cred = (x, h) := ⟨_, _, rfl⟩
            refine (ParseSys_to hx _ (HG3.out.fr hff id) HS.out.2.2.2.2).mono ?_
            rintro e z1 ⟨hf1, A1, c1, rfl, hI1, hIl1⟩
            clear k0 k1 k2 k3 k4 k5 k6 k7 k8 k9 hl2
            have hfg := (hff.then hf1 (fun _ _ h => h)).alloc (.cells #[.int .i64 x.stamp, .string x.machine, .int .i64 x.user, .int .i64 x.group, .slice A1 x.groups.length c1] 24)
            have hi1 := hI1.fr ((Fr.refl (fun _ => False) _).alloc (.cells #[.int .i64 x.stamp, .string x.machine, .int .i64 x.user, .int .i64 x.group, .slice A1 x.groups.length c1] 24)) (fun _ _ h => h)
            have HI1 := Lib.hid hi1
            have HIL := Lib.hid hIl1
            have hsm := parseSys_small c.cred
            rw [hx] at hsm
            have HX := Lib.hid hx
            have HM := Lib.hid hsm
            clear hf1 hi1 hI1 hIl1 hx hsm hff
            go_wp2_with fail
            obtain ⟨f1, f2, f3, hp⟩ : ∃ p1 p2 p3, printSysM x = (p1, p2, p3) := ⟨_, _, _, rfl⟩
            refine (PrintSys_to hp A1 c1 _ HI1.out (HG3.out.fr hfg id) (fun a h => by have := HIL.out a h; simp; omega) HM.out.1 HM.out.2).mono ?_
            rintro e z2 ⟨rfl, hf2⟩
            have hfh := (hfg.then hf2 (fun _ _ h => h)).alloc (.cells #[.int .i64 f1, .string f2] 32)
            have HP := Lib.hid hp
            clear hf2 HI1 HIL hp HM hfg
            obtain ⟨k0, k1, k2, k3, k4, k5, k6, k7, k8, k9⟩ := box10 (hidMove hx2 hfh id)
            have hl2 : w.heap.size + 1 + 1 < z2.heap.size + 1 := by have := lt_of_block (hidMove hx2 hfh id).out; simpa using this
            generalize mustB c = mb
            by_cases g1 : h = 0
            · have b1 : (h != 0) = false := by rw [bne_eq_false_iff_eq]; exact g1
              have g7 := print_parseSys (a := c.cred) (by rw [HX.out]; exact g1)
              rw [HX.out, HP.out] at g7
              obtain ⟨rfl, rfl, rfl⟩ : f1 = c.cred.flavor ∧ f2 = c.cred.body ∧ f3 = 0 := by simpa using g7
              clear g7 g1 HX HP
              go_wp2_with fail
              go_ret
              exact ⟨rfl, (H3.out).then hfh (fun _ _ h => h)⟩
            · have b1 : (h != 0) = true := by rw [bne_iff_ne]; exact g1
              clear g1 HX HP
              go_wp2_with fail
              go_ret
              exact ⟨rfl, (H3.out).then hfh (fun _ _ h => h)⟩
end Go.Proofs.YtcooijhndiainaaGreatDoor
