/- callboxlaw17.begun: a client of a config, and the document's. -/
import Derived.Test.YtlcjfafmmoncpaaGreatDoorEe
import Derived.Test.YtlcjfafmmoncpaaGreatDoorEf
import Derived.Test.YtlcjfafmmoncpaaGreatDoorEd
import Derived.Laws.Pointers
namespace Go.Proofs.YtlcjfafmmoncpaaGreatDoor
open Go.RowKit
set_option linter.unusedVariables false
set_option linter.unusedSimpArgs false

def PtrV (ok : Bool) (v : Value) : Prop := (ok = true ∧ ∃ b, v = .pointer (some ⟨b, 0, none⟩)) ∨ (ok = false ∧ v = .pointer none)
def errN (ok : Bool) : Int := if ok then 0 else 170
theorem New_both (c : CfgM) (A : Option Addr) (n : Nat) (w : World) (hA : IntsAt w A c.sys.groups) (hg : ErrT w) (hal : ∀ a, A = some a → a.block < w.heap.size) (hm : c.sys.machine.size ≤ 140737488351232) (hgl : c.sys.groups.length ≤ 1099511627776) :
    Calls Tryz.prog 34 #[.agg #[.int .i64 c.addr, .int .i64 c.inst, .int .i64 c.first, .int .i64 c.window, .int .i64 c.pace.base, .int .i64 c.pace.cap, .int .i64 c.pace.tries, .int .i64 c.sys.stamp, .string c.sys.machine, .int .i64 c.sys.user, .int .i64 c.sys.group, .slice A c.sys.groups.length n]] w fun r w' => ∃ v, r = .returned (.tuple #[v, .int .i64 (errN (newB c))]) ∧ PtrV (newB c) v ∧ Fr (fun _ => False) w w' := by
  by_cases h : NewMay c
  · have e : newB c = true := (new_iff c).2 h
    rw [e]
    refine Calls.mono (show Calls Tryz.prog 34 #[.agg (cfgCells c A n)] w _ from New_yes c A n w hA hg hal hm hgl h) ?_
    rintro e w' ⟨b, rfl, hf, _⟩
    exact ⟨_, rfl, .inl ⟨rfl, b, rfl⟩, hf⟩
  · have e : newB c = false := new_no h
    rw [e]
    refine Calls.mono (show Calls Tryz.prog 34 #[.agg (cfgCells c A n)] w _ from New_no c A n w hA hg hal hm hgl h) ?_
    rintro e w' ⟨rfl, hf⟩
    exact ⟨_, rfl, .inr ⟨rfl, rfl⟩, hf⟩
theorem rNew_both (c : CfgM) (A : Option Addr) (n : Nat) (w : World) (hA : IntsAt w A c.sys.groups) (hgl : c.sys.groups.length ≤ 1099511627776) :
    Calls Tryz.prog 43 #[.agg #[.int .i64 c.addr, .int .i64 c.inst, .int .i64 c.first, .int .i64 c.window, .int .i64 c.pace.base, .int .i64 c.pace.cap, .int .i64 c.pace.tries, .int .i64 c.sys.stamp, .string c.sys.machine, .int .i64 c.sys.user, .int .i64 c.sys.group, .slice A c.sys.groups.length n]] w fun r w' => ∃ v, r = .returned (.tuple #[v, .int .i64 (errN (newB c))]) ∧ PtrV (newB c) v ∧ Fr (fun _ => False) w w' := by
  by_cases h : NewMay c
  · have e : newB c = true := (new_iff c).2 h
    rw [e]
    refine Calls.mono (show Calls Tryz.prog 43 #[.agg (cfgCells c A n)] w _ from rNew_yes c A n w hA hgl h) ?_
    rintro e w' ⟨b, rfl, hf, _⟩
    exact ⟨_, rfl, .inl ⟨rfl, b, rfl⟩, hf⟩
  · have e : newB c = false := new_no h
    rw [e]
    refine Calls.mono (show Calls Tryz.prog 43 #[.agg (cfgCells c A n)] w _ from rNew_no c A n w hA h) ?_
    rintro e w' ⟨rfl, hf⟩
    exact ⟨_, rfl, .inr ⟨rfl, rfl⟩, hf⟩

set_option maxRecDepth 100000 in
set_option maxHeartbeats 4000000 in
theorem begun_any (c : CfgM) (A : Option Addr) (n : Nat) (w : World) (hA : IntsAt w A c.sys.groups) (hg : ErrT w) (hal : ∀ a, A = some a → a.block < w.heap.size) (hm : c.sys.machine.size ≤ 140737488351232) (hgl : c.sys.groups.length ≤ 1099511627776) :
    Calls Tryz.prog 10 #[.agg #[.int .i64 c.addr, .int .i64 c.inst, .int .i64 c.first, .int .i64 c.window, .int .i64 c.pace.base, .int .i64 c.pace.cap, .int .i64 c.pace.tries, .int .i64 c.sys.stamp, .string c.sys.machine, .int .i64 c.sys.user, .int .i64 c.sys.group, .slice A c.sys.groups.length n]] w fun r w' => ∃ v, r = .returned (.tuple #[v, .bool true]) ∧ Fr (fun _ => False) w w' := by
  have hx := Lib.hid (heap_alloc_new w (.cells #[.int .i64 c.addr, .int .i64 c.inst, .int .i64 c.first, .int .i64 c.window, .int .i64 c.pace.base, .int .i64 c.pace.cap, .int .i64 c.pace.tries, .int .i64 c.sys.stamp, .string c.sys.machine, .int .i64 c.sys.user, .int .i64 c.sys.group, .slice A c.sys.groups.length n] 28))
  have hA1 := hA.below ((Below.refl w.heap.size w).alloc (Nat.le_refl _) (.cells #[.int .i64 c.addr, .int .i64 c.inst, .int .i64 c.first, .int .i64 c.window, .int .i64 c.pace.base, .int .i64 c.pace.cap, .int .i64 c.pace.tries, .int .i64 c.sys.stamp, .string c.sys.machine, .int .i64 c.sys.user, .int .i64 c.sys.group, .slice A c.sys.groups.length n] 28))
  have HL := Lib.hid (lent_any c.sys.groups A n _ hA1 hgl)
  have HA := Lib.hid hA
  have HG := Lib.hid hg
  have HB := Lib.hid (And.intro hal (And.intro hm hgl))
  clear hA hg hal hm hgl hA1
  go_enter Tryz.func10, Tryz.ntmps10
  go_wp2_with fail
  refine HL.out.mono ?_
  rintro e w2 ⟨rfl, hf2, hrow⟩
  clear HL
  have hx2 := blockMove hx hf2 id
  have hF2 := Lib.hid (((Fr.refl (fun _ => False) w).alloc (.cells #[.int .i64 c.addr, .int .i64 c.inst, .int .i64 c.first, .int .i64 c.window, .int .i64 c.pace.base, .int .i64 c.pace.cap, .int .i64 c.pace.tries, .int .i64 c.sys.stamp, .string c.sys.machine, .int .i64 c.sys.user, .int .i64 c.sys.group, .slice A c.sys.groups.length n] 28)).trans hf2)
  have HR := Lib.hid hrow
  have hz2 : w.heap.size < w2.heap.size := lt_of_block hx2.out
  clear hf2 hrow hx
  obtain ⟨n0, n1, n2, n3, n4, n5, n6, n7, n8, n9, n10, n11⟩ := box12 hx2
  go_wp2_with fail
  have hr2 : RowB w2 (w.heap.size + 1) (lentL c.sys.groups 4) := by have := HR.out; rwa [World.size_alloc] at this
  clear n0 n1 n2 n3 n4 n5 n6 n7 n8 n9 n10 n11 HR
  have hf3 : Fr (fun _ => False) w2 (w2.alloc (.cells #[.int .i64 c.addr, .int .i64 c.inst, .int .i64 c.first, .int .i64 c.window, .int .i64 c.pace.base, .int .i64 c.pace.cap, .int .i64 c.pace.tries, .int .i64 c.sys.stamp, .string c.sys.machine, .int .i64 c.sys.user, .int .i64 c.sys.group, .slice (some ⟨w.heap.size + 1, 0, none⟩) c.sys.groups.length (c.sys.groups.length + 4)] 28)) := (Fr.refl _ _).alloc _
  have hr3 := hr2.fr hf3 id
  have hx3 := blockMove hx2 hf3 id
  have hF3 := hF2.out.trans hf3
  generalize w2.alloc (.cells #[.int .i64 c.addr, .int .i64 c.inst, .int .i64 c.first, .int .i64 c.window, .int .i64 c.pace.base, .int .i64 c.pace.cap, .int .i64 c.pace.tries, .int .i64 c.sys.stamp, .string c.sys.machine, .int .i64 c.sys.user, .int .i64 c.sys.group, .slice (some ⟨w.heap.size + 1, 0, none⟩) c.sys.groups.length (c.sys.groups.length + 4)] 28) = w3 at *
  have HN := Lib.hid (New_both c (some ⟨w.heap.size + 1, 0, none⟩) (c.sys.groups.length + 4) w3 (RowB.ints hr3) (HG.out.fr hF3 id) (fun a ha => by obtain rfl := Option.some.inj ha; exact hr3.lt) HB.out.2.1 HB.out.2.2)
  have HR3 := Lib.hid hr3
  have HF3 := Lib.hid hF3
  clear hr2 hf3 hr3 hF3 hx2 hF2
  refine HN.out.mono ?_
  rintro e w4 ⟨va, rfl, hpa, hf4⟩
  have hx4 := blockMove hx3 hf4 id
  have HR4 := Lib.hid (HR3.out.fr hf4 id)
  have HF4 := Lib.hid (HF3.out.trans hf4)
  have HPa := Lib.hid hpa
  clear hf4 hx3 HR3 HF3 HN hpa hz2
  obtain ⟨n0, n1, n2, n3, n4, n5, n6, n7, n8, n9, n10, n11⟩ := box12 hx4
  have HM := Lib.hid (rNew_both c A n w4 (HA.out.fr HF4.out (fun _ _ h => h)) HB.out.2.2)
  go_wp2_with fail
  refine HM.out.mono ?_
  rintro e w5 ⟨vb, rfl, hpb, hf5⟩
  clear n0 n1 n2 n3 n4 n5 n6 n7 n8 n9 n10 n11
  have hx5 := blockMove hx4 hf5 id
  have HF5 := Lib.hid (HF4.out.trans hf5)
  have HPb := Lib.hid hpb
  have HW := Lib.hid (whole_any c.sys.groups A n (w.heap.size + 1) w5 (HA.out.fr HF5.out (fun _ _ h => h)) (HR4.out.fr hf5 id) (fun a ha => by have := HB.out.1 a ha; omega) HB.out.2.2)
  clear hf5 hx4 HR4 HF4 HM hpb
  obtain ⟨n0, n1, n2, n3, n4, n5, n6, n7, n8, n9, n10, n11⟩ := box12 hx5
  go_wp2_with fail
  refine HW.out.mono ?_
  rintro e w6 ⟨rfl, hf6⟩
  clear n0 n1 n2 n3 n4 n5 n6 n7 n8 n9 n10 n11
  have HF6 := Lib.hid (HF5.out.then hf6 (fun i hi e => by omega))
  clear hf6 hx5 HW HF5
  rcases HPa.out with ⟨ea, ba, rfl⟩ | ⟨ea, rfl⟩
  · rcases HPb.out with ⟨eb, bb, rfl⟩ | ⟨eb, rfl⟩
    · go_wp2_with fail
      refine bodyPost_ret (v := .tuple #[.pointer (some ⟨w6.heap.size, 0, none⟩), .bool true]) ?_ rfl ⟨_, rfl, HF6.out.alloc _⟩
      simp [results, Tryz.results10, go_sem]
    · rw [ea] at eb; cases eb
  · rcases HPb.out with ⟨eb, bb, rfl⟩ | ⟨eb, rfl⟩
    · rw [ea] at eb; cases eb
    · go_wp2_with fail
      refine bodyPost_ret (v := .tuple #[.pointer (some ⟨w6.heap.size, 0, none⟩), .bool true]) ?_ rfl ⟨_, rfl, HF6.out.alloc _⟩
      simp [results, Tryz.results10, go_sem]
end Go.Proofs.YtlcjfafmmoncpaaGreatDoor
