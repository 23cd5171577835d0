/- Package cred: PrintSys. -/
import Derived.Test.YtlcjfafmmoncpaaGreatDoorCr
namespace Go.Proofs.YtlcjfafmmoncpaaGreatDoor
open Go.RowKit
set_option linter.unusedVariables false
set_option linter.unusedSimpArgs false

def newW (most : Int) : WSt := ⟨ByteArray.empty, most, 0⟩
theorem newW_ok {m : Int} (h : 0 ≤ m) (h2 : m ≤ 1099511627776) : WOk (newW m) := ⟨by simpa [newW] using h, h2⟩

theorem box2 {w : World} {b t : Nat} {v0 v1 : Value} (h : Hid (w.heap[b]? = some (.cells #[v0, v1] t (0, 0)))) :
    w.cell? ⟨b, 0, none⟩ = some v0 ∧ w.cell? ⟨b, 1, none⟩ = some v1 ∧ w.frozen? ⟨b, 0, none⟩ = false ∧ w.frozen? ⟨b, 1, none⟩ = false :=
  ⟨cellOf h.out 0, cellOf h.out 1, freeOf h.out 0, freeOf h.out 1⟩
theorem heap_two {w : World} {a b : Obj} : ((w.alloc a).alloc b).heap[w.heap.size + 1]? = some b := by
  have := heap_alloc_new (w.alloc a) b
  rwa [World.size_alloc] at this
theorem heap_three {w : World} {a b c : Obj} : (((w.alloc a).alloc b).alloc c).heap[w.heap.size + 1 + 1]? = some c := by
  have := heap_alloc_new ((w.alloc a).alloc b) c
  rwa [World.size_alloc, World.size_alloc] at this
theorem heap_old {w : World} {o : Obj} {k : Nat} {x : Obj} (h : w.heap[k]? = some x) : (w.alloc o).heap[k]? = some x := by
  rw [Below.heap_alloc _ _ _ (lt_of_block h)]; exact h

/-- what PrintSys tells: the flavor, the body, the error. -/
def printSysM (s : SysM) : Int × ByteArray × Int := if namedB s = true then (1, ((newW 1024).sys s).body, 0) else (0, ByteArray.empty, 110)

set_option maxRecDepth 100000 in
set_option maxHeartbeats 4000000 in
theorem PrintSys_any (s : SysM) (A : Option Addr) (c : Nat) (w : World) (hA : IntsAt w A s.groups) (hg : ErrT w) (hal : ∀ a, A = some a → a.block < w.heap.size) (hm : s.machine.size ≤ 140737488351232) (hgl : s.groups.length ≤ 140737488351232) :
    Calls Tryz.prog 99 #[sysV s A c] w fun r w' => r = .returned (.tuple #[.agg #[.int .i64 (printSysM s).1, .string (printSysM s).2.1], .int .i64 (printSysM s).2.2]) ∧ Fr (fun _ => False) w w' := by
  have HG := Lib.hid hg
  have HD := Lib.hid hal
  have hb3 : Below w.heap.size w (((w.alloc (.cells #[.int .i64 s.stamp, .string s.machine, .int .i64 s.user, .int .i64 s.group, .slice A s.groups.length c] 26)).alloc (.cells #[.int .i64 0, .string ByteArray.empty] 122)).alloc (.cells #[.int .i64 s.stamp, .string s.machine, .int .i64 s.user, .int .i64 s.group, .slice A s.groups.length c] 174)) :=
    (((Below.refl _ _).alloc (Nat.le_refl _) _).alloc (by simp) _).alloc (by simp; omega) _
  have hA3 := hA.below hb3
  have HA3 := Lib.hid hA3
  have hxa := Lib.hid (heap_old (o := .cells #[.int .i64 s.stamp, .string s.machine, .int .i64 s.user, .int .i64 s.group, .slice A s.groups.length c] 174) (heap_two (w := w) (a := .cells #[.int .i64 s.stamp, .string s.machine, .int .i64 s.user, .int .i64 s.group, .slice A s.groups.length c] 26) (b := .cells #[.int .i64 0, .string ByteArray.empty] 122)))
  have hxn := Lib.hid (heap_three (w := w) (a := .cells #[.int .i64 s.stamp, .string s.machine, .int .i64 s.user, .int .i64 s.group, .slice A s.groups.length c] 26) (b := .cells #[.int .i64 0, .string ByteArray.empty] 122) (c := .cells #[.int .i64 s.stamp, .string s.machine, .int .i64 s.user, .int .i64 s.group, .slice A s.groups.length c] 174))
  have HB := Lib.hid hb3
  clear hA hg hal hA3 hb3
  by_cases hn : namedB s = true
  · have e : printSysM s = (1, ((newW 1024).sys s).body, 0) := by simp [printSysM, hn]
    rw [e]
    clear e
    unfold sysV
    go_enter Tryz.func99, Tryz.ntmps99
    go_wp2_with (go_at_call 142; refine (named_any s A c _ HA3.out).mono ?_; rintro e w1 ⟨rfl, hf1⟩; have hxa := hidMove hxa hf1 id; have hxn := hidMove hxn hf1 id; obtain ⟨n0, n1, n2, n3, n4⟩ := box5 hxn)
    refine (WNew_any 1024 _ (by decide)).mono ?_
    rintro e w2 ⟨rfl, hf2, hw2⟩
    have e4 : max (1024 : Int) 0 = 1024 := by decide
    rw [e4] at hw2
    clear e4
    have hxa := hidMove hxa hf2 id
    have hxn := hidMove hxn hf2 id
    obtain ⟨n0, n1, n2, n3, n4⟩ := box5 hxn
    have hA2 := (HA3.out.fr hf1 (fun _ _ h => h)).fr hf2 (fun _ _ h => h)
    have hz1 : w.heap.size + 3 ≤ w1.heap.size := by have := hf1.size; simp at this; omega
    have hd : ∀ a, A = some a → ¬ a.block = w1.heap.size := fun a ha e => by have := HD.out a ha; omega
    have HA2 := Lib.hid hA2
    have Hd := Lib.hid hd
    clear hA2 hd
    go_wp2_with (go_at_call 143; refine (lays_any s A c _ hw2 (newW_ok (m := 1024) (by decide) (by decide)) HA2.out Hd.out hm hgl).mono ?_; rintro e w3 ⟨rfl, hf3, hw3, hok3⟩)
    have hxa := hidMove hxa hf3 (by omega)
    have hf13 : Fr (fun _ => False) w w3 := ((Fr.ofBelow HB.out).then hf1 (fun _ _ h => h)).then (hf2.then hf3 (fun i hi e => by omega)) (fun _ _ h => h)
    have hg3 := HG.out.fr hf13 id
    have HG3 := Lib.hid hg3
    clear hg3
    go_wp2_with (go_at_call 28; refine (WDone_any _ hw3 HG3.out).mono ?_; rintro e w4 ⟨rfl, hf4⟩; have hxa := hidMove hxa hf4 id; obtain ⟨a0, a1, fa0, fa1⟩ := box2 hxa)
    have hsz4 : w.heap.size + 1 < w4.heap.size := lt_of_block hxa.out
    refine bodyPost_ret (v := .tuple #[.agg #[.int .i64 1, .string ((newW 1024).sys s).body], .int .i64 0]) ?_ rfl ⟨rfl, ?_⟩
    · simp [results, Tryz.results99, go_sem, a0, a1, newW]
    · exact ((hf13.then hf4 (fun _ _ h => h)).setCell (.inr (by simp)) _).setCell (.inr (by simp)) _
  · have e : printSysM s = (0, ByteArray.empty, 110) := by simp [printSysM, hn]
    rw [e]
    clear e
    unfold sysV
    rw [Bool.not_eq_true] at hn
    go_enter Tryz.func99, Tryz.ntmps99
    go_wp2_with (go_at_call 142; refine (named_any s A c _ HA3.out).mono ?_; rintro e w1 ⟨rfl, hf1⟩; have hxa := hidMove hxa hf1 id; obtain ⟨a0, a1, fa0, fa1⟩ := box2 hxa)
    have hsz4 : w.heap.size + 1 < w1.heap.size := lt_of_block hxa.out
    refine bodyPost_ret (v := .tuple #[.agg #[.int .i64 0, .string ByteArray.empty], .int .i64 110]) ?_ rfl ⟨rfl, ?_⟩
    · simp [results, Tryz.results99, go_sem, a0, a1]
      rfl
    · exact (((Fr.ofBelow HB.out).then hf1 (fun _ _ h => h)).setCell (.inr (by simp)) _).setCell (.inr (by simp)) _

end Go.Proofs.YtlcjfafmmoncpaaGreatDoor
