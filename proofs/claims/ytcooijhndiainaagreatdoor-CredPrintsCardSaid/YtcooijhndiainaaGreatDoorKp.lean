/- The walk of CredPrints: for every input it tells true. -/
import Derived.Test.YtcooijhndiainaaGreatDoorKb
import Derived.Test.YtcooijhndiainaaGreatDoorR8
import Derived.Test.YtcooijhndiainaaGreatDoorLx
namespace Go.Proofs.YtcooijhndiainaaGreatDoor
open Go.RowKit

theorem rPrintSys_to {s : SysM} {p1 p3 : Int} {p2 : ByteArray} (h : printSysM s = (p1, p2, p3)) (A : Option Addr) (c : Nat) (w : World) (hA : IntsAt w A s.groups) (hal : ∀ a, A = some a → a.block < w.heap.size) (hm : s.machine.size ≤ 1099511627776) (hgl : s.groups.length ≤ 1099511627776) :
    Calls Tryz.prog 16 #[.agg #[.int .i64 s.stamp, .string s.machine, .int .i64 s.user, .int .i64 s.group, .slice A s.groups.length c]] w fun r w' => r = .returned (.tuple #[.agg #[.int .i64 p1, .string p2], .int .i64 p3]) ∧ Fr (fun _ => False) w w' := by
  have k := rPrintSys_any s A c w hA hal hm hgl
  rw [h] at k
  exact k
theorem rPrintMark_to {m : MarkM} {p1 p3 : Int} {p2 : ByteArray} (h : printMarkM m = (p1, p2, p3)) (A : Option Addr) (c : Nat) (w : World) (hA : IntsAt w A m.sys.groups) (hal : ∀ a, A = some a → a.block < w.heap.size) (hm : m.sys.machine.size ≤ 1099511627776) (hgl : m.sys.groups.length ≤ 1099511627776) :
    Calls Tryz.prog 18 #[.agg #[.int .i64 m.inst, .int .i64 m.seq, .int .i64 m.water, .int .i64 m.sys.stamp, .string m.sys.machine, .int .i64 m.sys.user, .int .i64 m.sys.group, .slice A m.sys.groups.length c]] w fun r w' => r = .returned (.tuple #[.agg #[.int .i64 p1, .string p2], .int .i64 p3]) ∧ Fr (fun _ => False) w w' := by
  have k := rPrintMark_any m A c w hA hal hm hgl
  rw [h] at k
  exact k

theorem RowB.lent {w : World} {b : Nat} {xs : List Int} (h : RowB w b (lentL xs 4)) : IntsAt w (some ⟨b, 0, none⟩) xs := h.ints
def weighs2 (s : SysM) (m : MarkM) : Int := addsM (sysWeighsM s) (sysWeighsM m.sys)
theorem weighs2_small {s : SysM} {m : MarkM} (h : ¬ 2147483647 < weighs2 s m) :
    s.machine.size ≤ 1099511627776 ∧ s.groups.length ≤ 1099511627776 ∧ m.sys.machine.size ≤ 1099511627776 ∧ m.sys.groups.length ≤ 1099511627776 := by
  have key : ∀ a b : Int, ¬ 2147483647 < addsM a b → a ≤ 2147483647 ∧ b ≤ 2147483647 := fun a b hab => by
    unfold addsM at hab; split at hab <;> omega
  have h0 := key _ _ h
  have h1 := key _ _ (Int.not_lt.2 h0.1)
  have h2 := key _ _ (Int.not_lt.2 h0.2)
  omega
theorem kpS {w w' : World} {s : SysM} {m : MarkM} {A B : Option Addr} {cs cm t0 t1 : Nat}
    (h0 : Hid (w'.heap[w.heap.size]? = some (.cells #[.int .i64 s.stamp, .string s.machine, .int .i64 s.user, .int .i64 s.group, .slice A s.groups.length cs] t0 (0, 0))))
    (h1 : Hid (w'.heap[w.heap.size + 1]? = some (.cells #[.int .i64 m.inst, .int .i64 m.seq, .int .i64 m.water, .int .i64 m.sys.stamp, .string m.sys.machine, .int .i64 m.sys.user, .int .i64 m.sys.group, .slice B m.sys.groups.length cm] t1 (0, 0)))) :
    w'.cell? ⟨w.heap.size, 0, none⟩ = some (.int .i64 s.stamp) ∧ w'.cell? ⟨w.heap.size, 1, none⟩ = some (.string s.machine) ∧ w'.cell? ⟨w.heap.size, 2, none⟩ = some (.int .i64 s.user) ∧ w'.cell? ⟨w.heap.size, 3, none⟩ = some (.int .i64 s.group) ∧ w'.cell? ⟨w.heap.size, 4, none⟩ = some (.slice A s.groups.length cs) ∧ w'.cell? ⟨w.heap.size + 1, 3, none⟩ = some (.int .i64 m.sys.stamp) ∧ w'.cell? ⟨w.heap.size + 1, 4, none⟩ = some (.string m.sys.machine) ∧ w'.cell? ⟨w.heap.size + 1, 5, none⟩ = some (.int .i64 m.sys.user) ∧ w'.cell? ⟨w.heap.size + 1, 6, none⟩ = some (.int .i64 m.sys.group) ∧ w'.cell? ⟨w.heap.size + 1, 7, none⟩ = some (.slice B m.sys.groups.length cm) :=
  ⟨cellOf h0.out 0, cellOf h0.out 1, cellOf h0.out 2, cellOf h0.out 3, cellOf h0.out 4, cellOf h1.out 3, cellOf h1.out 4, cellOf h1.out 5, cellOf h1.out 6, cellOf h1.out 7⟩

set_option maxRecDepth 100000 in
set_option maxHeartbeats 4000000 in
theorem CredPrints_any (s : SysM) (A : Option Addr) (cs : Nat) (m : MarkM) (B : Option Addr) (cm : Nat) (w : World) (hA : IntsAt w A s.groups) (hB : IntsAt w B m.sys.groups) (hg : ErrT w)
    (hal : ∀ a, A = some a → a.block < w.heap.size) (hbl : ∀ a, B = some a → a.block < w.heap.size) :
    Calls Tryz.prog 3 #[.agg (sysCells s A cs), .agg (markCells m B cm)] w fun r w' => r = .returned (.bool true) ∧ Fr (fun _ => False) w w' := by
  have hb3 := Lib.hid (((Below.refl _ _).alloc (Nat.le_refl _) _).alloc (by simp) _ : Below w.heap.size w ((w.alloc (.cells (sysCells s A cs) 24)).alloc (.cells (markCells m B cm) 26)))
  have hx1 := Lib.hid (heap_two (w := w) (a := .cells (sysCells s A cs) 24) (b := .cells (markCells m B cm) 26))
  have hx0 := Lib.hid (heap_old (o := .cells (markCells m B cm) 26) (heap_alloc_new w (.cells (sysCells s A cs) 24)))
  have HA := Lib.hid hA
  have HB := Lib.hid hB
  have HG := Lib.hid hg
  have HAL := Lib.hid hal
  have HBL := Lib.hid hbl
  clear hA hB hg hal hbl
  unfold sysCells markCells at *
  go_enter Tryz.func3, Tryz.ntmps3
  go_upto_region 1 with fail
  generalize (w.alloc _).alloc _ = w3 at *
  have hWn : Hid (0 ≤ sysWeighsM s ∧ 0 ≤ sysWeighsM m.sys) := Lib.hid ⟨addsM_nonneg (by omega) (by omega), addsM_nonneg (by omega) (by omega)⟩
  have hfw : Fr (fun _ => False) w3 w3 := Fr.refl _ _
  go_cut [27] from 21 (fun b wx => b = .bool (decide (2147483647 < weighs2 s m)) ∧ Fr (fun _ => False) w3 wx)
  --<FIRST
  case first => as_aux_lemma =>
    go_region_held3 (fun w' => w'.cell? ⟨w.heap.size, 0, none⟩ = some (.int .i64 s.stamp) ∧ w'.cell? ⟨w.heap.size, 1, none⟩ = some (.string s.machine) ∧ w'.cell? ⟨w.heap.size, 2, none⟩ = some (.int .i64 s.user) ∧ w'.cell? ⟨w.heap.size, 3, none⟩ = some (.int .i64 s.group) ∧ w'.cell? ⟨w.heap.size, 4, none⟩ = some (.slice A s.groups.length cs) ∧ w'.cell? ⟨w.heap.size + 1, 3, none⟩ = some (.int .i64 m.sys.stamp) ∧ w'.cell? ⟨w.heap.size + 1, 4, none⟩ = some (.string m.sys.machine) ∧ w'.cell? ⟨w.heap.size + 1, 5, none⟩ = some (.int .i64 m.sys.user) ∧ w'.cell? ⟨w.heap.size + 1, 6, none⟩ = some (.int .i64 m.sys.group) ∧ w'.cell? ⟨w.heap.size + 1, 7, none⟩ = some (.slice B m.sys.groups.length cm)) (first | exact kpS hx0 hx1) (first
      | (go_at_call 12; refine (sysWeighs_c _ _ _ _).mono ?_; rintro e w4 ⟨rfl, hf4⟩; (try have hf4 := Fr.ofDrew hf4); have hx0 := hidMove hx0 hf4 id; have hx1 := hidMove hx1 hf4 id; have hfw := hfw.then hf4 (fun _ _ h => h))
      | (go_at_call 11; refine (addsUp_same _ _ _ hWn.out.1 hWn.out.2).mono ?_; rintro e w4 ⟨rfl, rfl⟩))
    go_wp2_with fail
    go_meet
    case rel => exact ⟨rfl, hfw⟩
  -->FIRST
  case rest =>
    obtain ⟨rfl, hfc⟩ := hcut
    clear hfw hWn
    have h3 := (Fr.ofBelow (S := fun _ => False) hb3.out)
    by_cases hW : 2147483647 < weighs2 s m
    · go_wp2
      go_ret
      exact ⟨rfl, h3.then hfc (fun _ _ h => h)⟩
    have HW := Lib.hid hW
    have hW' : decide (2147483647 < weighs2 s m) = false := decide_eq_false hW
    rw [hW']
    clear hW hW' hb3
    have HA3 := Lib.hid (HA.out.fr h3 (fun _ _ h => h))
    have HB3 := Lib.hid (HB.out.fr h3 (fun _ _ h => h))
    have HG3 := Lib.hid (HG.out.fr h3 id)
    have HAL3 := Lib.hid (fun a h => Nat.lt_of_lt_of_le (HAL.out a h) h3.size)
    have HBL3 := Lib.hid (fun a h => Nat.lt_of_lt_of_le (HBL.out a h) h3.size)
    have H3 := Lib.hid h3
    clear HA HB HG HAL HBL h3
    have HS := Lib.hid (weighs2_small HW.out)
    have h32 : w.heap.size + 1 < w3.heap.size := lt_of_block hx1.out
    go_wp2_with fail
    refine (awake_any _ (HG3.out.fr hfc id)).mono ?_
    rintro e w5 ⟨rfl, hf5⟩
    have hfc := Lib.hid (hfc.then hf5 (fun _ _ h => h))
    clear hf5
    go_wp2_with fail
    go_loopw [6] (fun i wr => ∃ k : Nat, k ≤ 2 ∧ i = .int .i64 k ∧ Hid (Fr (fun _ => False) w3 wr)) (fun i _ => 2 - (intOf i).toNat)
    case atStart => exact ⟨0, by omega, rfl, hfc⟩
    case round =>
      clear hfc
      obtain ⟨k, hk, rfl, hfc⟩ := hrel
      have HWr := hfc
      by_cases hlt : k < 2
      · skip
        obtain ⟨s0, s1, s2, s3, s4⟩ := box5 (hidMove hx0 hfc.out id)
        have hl0 : w.heap.size < wr.heap.size := lt_of_block (hidMove hx0 hfc.out id).out
        go_wp2_with fail
        refine (lent_any s.groups A cs _ (HA3.out.fr hfc.out (fun _ _ h => h)) HS.out.2.1).mono ?_
        rintro e v1 ⟨rfl, hf1, hr1⟩
        have hfc := Lib.hid (hfc.out.then hf1 (fun _ _ h => h))
        have hz1 := hr1.lt
        clear s0 s1 s2 s3 s4 hl0 hf1
        obtain ⟨m0, m1, m2, m3, m4, m5, m6, m7⟩ := box8 (hidMove hx1 hfc.out id)
        have hl1 : w.heap.size + 1 < v1.heap.size := lt_of_block (hidMove hx1 hfc.out id).out
        go_wp2_with fail
        refine (lent_any m.sys.groups B cm _ (HB3.out.fr hfc.out (fun _ _ h => h)) HS.out.2.2.2).mono ?_
        rintro e v2 ⟨rfl, hf2, hr2⟩
        have hfc := Lib.hid (hfc.out.then hf2 (fun _ _ h => h))
        have hr1 := Lib.hid (hr1.fr hf2 id)
        have hr2 := Lib.hid hr2
        have hz2 := hr2.out.lt
        clear m0 m1 m2 m3 m4 m5 m6 m7 hl1 hf2
        obtain ⟨s0, s1, s2, s3, s4⟩ := box5 (hidMove hx0 hfc.out id)
        obtain ⟨m0, m1, m2, m3, m4, m5, m6, m7⟩ := box8 (hidMove hx1 hfc.out id)
        have hl1 : w.heap.size + 1 < v2.heap.size := lt_of_block (hidMove hx1 hfc.out id).out
        have hl0 : w.heap.size < v2.heap.size := by omega
        go_wp2_with fail
        have hfc := Lib.hid ((hfc.out.alloc (Obj.cells #[.int .i64 s.stamp, .string s.machine, .int .i64 s.user, .int .i64 s.group, .slice (some ⟨wr.heap.size, 0, none⟩) s.groups.length (s.groups.length + 4)] 24 (0, 0))).alloc (Obj.cells #[.int .i64 m.inst, .int .i64 m.seq, .int .i64 m.water, .int .i64 m.sys.stamp, .string m.sys.machine, .int .i64 m.sys.user, .int .i64 m.sys.group, .slice (some ⟨v1.heap.size, 0, none⟩) m.sys.groups.length (m.sys.groups.length + 4)] 26 (0, 0)))
        have fa : Fr (fun _ => False) v2 ((v2.alloc (Obj.cells #[.int .i64 s.stamp, .string s.machine, .int .i64 s.user, .int .i64 s.group, .slice (some ⟨wr.heap.size, 0, none⟩) s.groups.length (s.groups.length + 4)] 24 (0, 0))).alloc (Obj.cells #[.int .i64 m.inst, .int .i64 m.seq, .int .i64 m.water, .int .i64 m.sys.stamp, .string m.sys.machine, .int .i64 m.sys.user, .int .i64 m.sys.group, .slice (some ⟨v1.heap.size, 0, none⟩) m.sys.groups.length (m.sys.groups.length + 4)] 26 (0, 0))) := ((Fr.refl _ _).alloc _).alloc _
        have hr1 := Lib.hid (hr1.out.fr fa id)
        have hr2 := Lib.hid (hr2.out.fr fa id)
        have h9 := Lib.hid (heap_old (o := (Obj.cells #[.int .i64 m.inst, .int .i64 m.seq, .int .i64 m.water, .int .i64 m.sys.stamp, .string m.sys.machine, .int .i64 m.sys.user, .int .i64 m.sys.group, .slice (some ⟨v1.heap.size, 0, none⟩) m.sys.groups.length (m.sys.groups.length + 4)] 26 (0, 0))) (heap_alloc_new v2 (Obj.cells #[.int .i64 s.stamp, .string s.machine, .int .i64 s.user, .int .i64 s.group, .slice (some ⟨wr.heap.size, 0, none⟩) s.groups.length (s.groups.length + 4)] 24 (0, 0))))
        have h10 := Lib.hid (heap_two (w := v2) (a := (Obj.cells #[.int .i64 s.stamp, .string s.machine, .int .i64 s.user, .int .i64 s.group, .slice (some ⟨wr.heap.size, 0, none⟩) s.groups.length (s.groups.length + 4)] 24 (0, 0))) (b := (Obj.cells #[.int .i64 m.inst, .int .i64 m.seq, .int .i64 m.water, .int .i64 m.sys.stamp, .string m.sys.machine, .int .i64 m.sys.user, .int .i64 m.sys.group, .slice (some ⟨v1.heap.size, 0, none⟩) m.sys.groups.length (m.sys.groups.length + 4)] 26 (0, 0))))
        clear s0 s1 s2 s3 s4 m0 m1 m2 m3 m4 m5 m6 m7 hl1 hl0 fa
        show Calls _ _ _ ((v2.alloc (Obj.cells #[.int .i64 s.stamp, .string s.machine, .int .i64 s.user, .int .i64 s.group, .slice (some ⟨wr.heap.size, 0, none⟩) s.groups.length (s.groups.length + 4)] 24 (0, 0))).alloc (Obj.cells #[.int .i64 m.inst, .int .i64 m.seq, .int .i64 m.water, .int .i64 m.sys.stamp, .string m.sys.machine, .int .i64 m.sys.user, .int .i64 m.sys.group, .slice (some ⟨v1.heap.size, 0, none⟩) m.sys.groups.length (m.sys.groups.length + 4)] 26 (0, 0))) _
        generalize (v2.alloc (Obj.cells #[.int .i64 s.stamp, .string s.machine, .int .i64 s.user, .int .i64 s.group, .slice (some ⟨wr.heap.size, 0, none⟩) s.groups.length (s.groups.length + 4)] 24 (0, 0))).alloc (Obj.cells #[.int .i64 m.inst, .int .i64 m.seq, .int .i64 m.water, .int .i64 m.sys.stamp, .string m.sys.machine, .int .i64 m.sys.user, .int .i64 m.sys.group, .slice (some ⟨v1.heap.size, 0, none⟩) m.sys.groups.length (m.sys.groups.length + 4)] 26 (0, 0)) = v3 at *
        obtain ⟨p1, p2, p3, hp⟩ : ∃ p1 p2 p3, printSysM s = (p1, p2, p3) := ⟨_, _, _, rfl⟩
        refine (PrintSys_to hp (some ⟨wr.heap.size, 0, none⟩) (s.groups.length + 4) _ hr1.out.lent (HG3.out.fr hfc.out id) (fun a h => by cases h; exact hr1.out.lt) HS.out.1 HS.out.2.1).mono ?_
        have HP := Lib.hid hp
        clear hp
        rintro e v4 ⟨rfl, hf4⟩
        have y4 : wr.heap.size < v4.heap.size ∧ v1.heap.size < v4.heap.size := ⟨Nat.lt_of_lt_of_le hr1.out.lt hf4.size, Nat.lt_of_lt_of_le hr2.out.lt hf4.size⟩
        have hfc := Lib.hid ((hfc.out.then hf4 (fun _ _ h => h)).alloc (Obj.cells #[.int .i64 p1, .string p2] 32 (0, 0)))
        have fa : Fr (fun _ => False) v3 (v4.alloc (Obj.cells #[.int .i64 p1, .string p2] 32 (0, 0))) := hf4.alloc _
        have hr1 := Lib.hid (hr1.out.fr fa id)
        have hr2 := Lib.hid (hr2.out.fr fa id)
        have h10 := hidMove h10 fa id
        have h11 := Lib.hid (heap_alloc_new v4 (Obj.cells #[.int .i64 p1, .string p2] 32 (0, 0)))
        clear hf4 fa h9
        obtain ⟨s0, s1, s2, s3, s4⟩ := box5 (hidMove hx0 hfc.out id)
        have hl0 : w.heap.size < v4.heap.size + 1 := by have := lt_of_block (hidMove hx0 hfc.out id).out; simpa using this
        go_wp2_with fail
        refine (rPrintSys_to HP.out A cs _ (HA3.out.fr hfc.out (fun _ _ h => h)) (fun a h => Nat.lt_of_lt_of_le (HAL3.out a h) hfc.out.size) HS.out.1 HS.out.2.1).mono ?_
        rintro e v5 ⟨rfl, hf5⟩
        have y5 : wr.heap.size < v5.heap.size ∧ v1.heap.size < v5.heap.size := ⟨Nat.lt_of_lt_of_le hr1.out.lt hf5.size, Nat.lt_of_lt_of_le hr2.out.lt hf5.size⟩
        clear s0 s1 s2 s3 s4 hl0
        have hfc := Lib.hid ((hfc.out.then hf5 (fun _ _ h => h)).alloc (Obj.cells #[.int .i64 p1, .string p2] 32 (0, 0)))
        have fa : Fr (fun _ => False) _ (v5.alloc (Obj.cells #[.int .i64 p1, .string p2] 32 (0, 0))) := hf5.alloc _
        have hr1 := Lib.hid (hr1.out.fr fa id)
        have hr2 := Lib.hid (hr2.out.fr fa id)
        have h10 := hidMove h10 fa id
        have h11 := hidMove h11 fa id
        have h13 := Lib.hid (heap_alloc_new v5 (Obj.cells #[.int .i64 p1, .string p2] 32 (0, 0)))
        clear hf5 fa
        obtain ⟨n0, n1, n2, n3, n4, n5, n6, n7⟩ := box8 h10
        have hl10 : v2.heap.size + 1 < v5.heap.size + 1 := by have := lt_of_block h10.out; simpa using this
        go_wp2_with fail
        obtain ⟨q1, q2, q3, hq⟩ : ∃ p1 p2 p3, printMarkM m = (p1, p2, p3) := ⟨_, _, _, rfl⟩
        refine (PrintMark_to hq (some ⟨v1.heap.size, 0, none⟩) (m.sys.groups.length + 4) _ hr2.out.lent (HG3.out.fr hfc.out id) (fun a h => by cases h; exact hr2.out.lt) HS.out.2.2.1 HS.out.2.2.2).mono ?_
        have HQ := Lib.hid hq
        clear hq
        rintro e v6 ⟨rfl, hf6⟩
        have y6 : wr.heap.size < v6.heap.size ∧ v1.heap.size < v6.heap.size := ⟨Nat.lt_of_lt_of_le hr1.out.lt hf6.size, Nat.lt_of_lt_of_le hr2.out.lt hf6.size⟩
        clear n0 n1 n2 n3 n4 n5 n6 n7 hl10
        have hfc := Lib.hid ((hfc.out.then hf6 (fun _ _ h => h)).alloc (Obj.cells #[.int .i64 q1, .string q2] 32 (0, 0)))
        have fa : Fr (fun _ => False) _ (v6.alloc (Obj.cells #[.int .i64 q1, .string q2] 32 (0, 0))) := hf6.alloc _
        have hr1 := Lib.hid (hr1.out.fr fa id)
        have hr2 := Lib.hid (hr2.out.fr fa id)
        have h11 := hidMove h11 fa id
        have h13 := hidMove h13 fa id
        have h15 := Lib.hid (heap_alloc_new v6 (Obj.cells #[.int .i64 q1, .string q2] 32 (0, 0)))
        clear hf6 fa h10
        obtain ⟨m0, m1, m2, m3, m4, m5, m6, m7⟩ := box8 (hidMove hx1 hfc.out id)
        have hl1 : w.heap.size + 1 < v6.heap.size + 1 := by have := lt_of_block (hidMove hx1 hfc.out id).out; simpa using this
        go_wp2_with fail
        refine (rPrintMark_to HQ.out B cm _ (HB3.out.fr hfc.out (fun _ _ h => h)) (fun a h => Nat.lt_of_lt_of_le (HBL3.out a h) hfc.out.size) HS.out.2.2.1 HS.out.2.2.2).mono ?_
        rintro e v7 ⟨rfl, hf7⟩
        have y7 : wr.heap.size < v7.heap.size ∧ v1.heap.size < v7.heap.size := ⟨Nat.lt_of_lt_of_le hr1.out.lt hf7.size, Nat.lt_of_lt_of_le hr2.out.lt hf7.size⟩
        clear m0 m1 m2 m3 m4 m5 m6 m7 hl1
        have hfc := Lib.hid ((hfc.out.then hf7 (fun _ _ h => h)).alloc (Obj.cells #[.int .i64 q1, .string q2] 32 (0, 0)))
        have fa : Fr (fun _ => False) _ (v7.alloc (Obj.cells #[.int .i64 q1, .string q2] 32 (0, 0))) := hf7.alloc _
        have hr1 := Lib.hid (hr1.out.fr fa id)
        have hr2 := Lib.hid (hr2.out.fr fa id)
        have h11 := hidMove h11 fa id
        have h13 := hidMove h13 fa id
        have h15 := hidMove h15 fa id
        have h17 := Lib.hid (heap_alloc_new v7 (Obj.cells #[.int .i64 q1, .string q2] 32 (0, 0)))
        clear hf7 fa
        obtain ⟨s0, s1, s2, s3, s4⟩ := box5 (hidMove hx0 hfc.out id)
        have hl0 : w.heap.size < v7.heap.size + 1 := by have := lt_of_block (hidMove hx0 hfc.out id).out; simpa using this
        have hz3 : w.heap.size + 1 < wr.heap.size := Nat.lt_of_lt_of_le h32 HWr.out.size
        have hd1 : ∀ a, A = some a → a.block ≠ wr.heap.size := fun a ha e => by have := HAL3.out a ha; have := HWr.out.size; omega
        have hd2 : ∀ a, B = some a → a.block ≠ v1.heap.size := fun a ha e => by have := HBL3.out a ha; have := HWr.out.size; omega
        have HD1 := Lib.hid hd1
        have HD2 := Lib.hid hd2
        clear hd1 hd2
        go_wp2_with fail
        refine (whole_any s.groups A cs wr.heap.size _ (HA3.out.fr hfc.out (fun _ _ h => h)) hr1.out HD1.out HS.out.2.1).mono ?_
        rintro e v8 ⟨rfl, hf8⟩
        have hz3' : w3.heap.size ≤ wr.heap.size := HWr.out.size
        clear s0 s1 s2 s3 s4 hl0
        have hfc := Lib.hid (hfc.out.then hf8 (fun i hi h => by omega))
        have hr2 := Lib.hid (hr2.out.fr hf8 (by omega))
        have h11 := hidMove h11 hf8 (by omega)
        have h13 := hidMove h13 hf8 (by omega)
        have h15 := hidMove h15 hf8 (by omega)
        have h17 := hidMove h17 hf8 (by omega)
        clear hf8 hr1
        obtain ⟨m0, m1, m2, m3, m4, m5, m6, m7⟩ := box8 (hidMove hx1 hfc.out id)
        have hl1 : w.heap.size + 1 < v8.heap.size := lt_of_block (hidMove hx1 hfc.out id).out
        go_wp2_with fail
        refine (whole_any m.sys.groups B cm v1.heap.size _ (HB3.out.fr hfc.out (fun _ _ h => h)) hr2.out HD2.out HS.out.2.2.2).mono ?_
        rintro e v9 ⟨rfl, hf9⟩
        clear m0 m1 m2 m3 m4 m5 m6 m7 hl1
        have hfc := Lib.hid (hfc.out.then hf9 (fun i hi h => by omega))
        have h11 := hidMove h11 hf9 (by omega)
        have h13 := hidMove h13 hf9 (by omega)
        have h15 := hidMove h15 hf9 (by omega)
        have h17 := hidMove h17 hf9 (by omega)
        clear hf9 hr2 HD1 HD2
        obtain ⟨a0, a1, _, _⟩ := box2 h11
        obtain ⟨b0, b1, _, _⟩ := box2 h13
        obtain ⟨c0, c1, _, _⟩ := box2 h15
        obtain ⟨d0, d1, _, _⟩ := box2 h17
        have e1 : v4.heap.size < v9.heap.size := lt_of_block h11.out
        have e2 : v5.heap.size < v9.heap.size := lt_of_block h13.out
        have e3 : v6.heap.size < v9.heap.size := lt_of_block h15.out
        have e4 : v7.heap.size < v9.heap.size := lt_of_block h17.out
        go_wp2
        exact ⟨⟨k + 1, by omega, by go_num, hfc⟩, by simp [intOf]; omega⟩
      · go_wp2
        go_ret
        exact ⟨rfl, H3.out.then hfc.out (fun _ _ h => h)⟩
end Go.Proofs.YtcooijhndiainaaGreatDoor
