/- Package cred: who somebody says to be: whether it may be, and how it is laid down. -/
import Derived.Test.YtbegjpmifcnieaaGreatDoorXi
namespace Go.Proofs.YtbegjpmifcnieaaGreatDoor
open Go.RowKit
set_option linter.unusedVariables false
set_option linter.unusedSimpArgs false

structure SysM where
  stamp : Int
  machine : ByteArray
  user : Int
  group : Int
  groups : List Int

def sysV (s : SysM) (A : Option Addr) (c : Nat) : Value := .agg #[.int .i64 s.stamp, .string s.machine, .int .i64 s.user, .int .i64 s.group, .slice A s.groups.length c]

/-- a slice's numbers, as they lie. -/
def IntsAt (w : World) (A : Option Addr) (xs : List Int) : Prop :=
  xs = [] ∨ ∃ b off, A = some ⟨b, off, none⟩ ∧ b < w.heap.size ∧ ∀ j, j < xs.length → w.cell? ⟨b, off + j, none⟩ = some (.int .i64 (xs.getD j 0))
theorem IntsAt.fr {w w' : World} {S : Nat → Prop} {A : Option Addr} {xs : List Int} (h : IntsAt w A xs) (hf : Fr S w w') (hs : ∀ a, A = some a → ¬ S a.block) : IntsAt w' A xs := by
  rcases h with h | ⟨b, off, rfl, hb, hc⟩
  · exact .inl h
  · exact .inr ⟨b, off, rfl, Nat.lt_of_lt_of_le hb hf.size, fun j hj => (World.cell?_of_block (w := w) (a := ⟨b, off + j, none⟩) (hf.block b hb (hs _ rfl))).trans (hc j hj)⟩
theorem IntsAt.below {w w' : World} {A : Option Addr} {xs : List Int} (h : IntsAt w A xs) (hf : Below w.heap.size w w') : IntsAt w' A xs :=
  h.fr (S := fun _ => False) (Fr.ofBelow hf) (fun _ _ h => h)

theorem isWordC_any (n : Int) (w : World) : Calls Tryz.prog 212 #[.int .i64 n] w fun r w' => r = .returned (.bool (isWordB n)) ∧ w = w' := by
  by_cases h : 0 ≤ n
  · by_cases h2 : n ≤ 4294967295
    · rw [isWordB_of ⟨h, h2⟩]
      go_enter Tryz.func212, Tryz.ntmps212
      go_wp2
      go_ret
      exact ⟨rfl, rfl⟩
    · rw [isWordB_no (fun h => h2 h.2)]
      go_enter Tryz.func212, Tryz.ntmps212
      go_wp2
      go_ret
      exact ⟨rfl, rfl⟩
  · rw [isWordB_no (fun h2 => h h2.1)]
    go_enter Tryz.func212, Tryz.ntmps212
    go_wp2
    go_ret
    exact ⟨rfl, rfl⟩

def namedB (s : SysM) : Bool :=
  isWordB s.stamp && isWordB s.user && isWordB s.group && decide ((s.machine.size : Int) ≤ 255) && decide ((s.groups.length : Int) ≤ 16) && s.groups.all isWordB

set_option maxRecDepth 100000 in
set_option maxHeartbeats 2000000 in
theorem named_any (s : SysM) (A : Option Addr) (c : Nat) (w : World) (hA : IntsAt w A s.groups) :
    Calls Tryz.prog 143 #[sysV s A c] w fun r w' => r = .returned (.bool (namedB s)) ∧ Fr (fun _ => False) w w' := by
  have HA := Lib.hid hA
  clear hA
  unfold sysV
  by_cases h1 : isWordB s.stamp = true
  case neg =>
    have e : namedB s = false := by simp [namedB, h1]
    rw [e]
    clear e
    rw [Bool.not_eq_true] at h1
    go_enter Tryz.func143, Tryz.ntmps143
    go_wp2_with (go_at_call 212; refine (isWordC_any _ _).mono ?_; rintro e w' ⟨rfl, rfl⟩)
    go_ret
    exact ⟨rfl, ((Fr.refl _ _).alloc _).alloc _⟩
  by_cases h2 : isWordB s.user = true
  case neg =>
    have e : namedB s = false := by simp [namedB, h2]
    rw [e]
    clear e
    rw [Bool.not_eq_true] at h2
    go_enter Tryz.func143, Tryz.ntmps143
    go_wp2_with (go_at_call 212; refine (isWordC_any _ _).mono ?_; rintro e w' ⟨rfl, rfl⟩)
    go_ret
    exact ⟨rfl, ((Fr.refl _ _).alloc _).alloc _⟩
  by_cases h3 : isWordB s.group = true
  case neg =>
    have e : namedB s = false := by simp [namedB, h3]
    rw [e]
    clear e
    rw [Bool.not_eq_true] at h3
    go_enter Tryz.func143, Tryz.ntmps143
    go_wp2_with (go_at_call 212; refine (isWordC_any _ _).mono ?_; rintro e w' ⟨rfl, rfl⟩)
    go_ret
    exact ⟨rfl, ((Fr.refl _ _).alloc _).alloc _⟩
  by_cases h4 : (s.machine.size : Int) ≤ 255
  case neg =>
    have e : namedB s = false := by simp [namedB, h4]
    rw [e]
    clear e
    have h4 := Int.not_le.1 h4
    go_enter Tryz.func143, Tryz.ntmps143
    go_wp2_with (go_at_call 212; refine (isWordC_any _ _).mono ?_; rintro e w' ⟨rfl, rfl⟩)
    go_ret
    exact ⟨rfl, ((Fr.refl _ _).alloc _).alloc _⟩
  by_cases h5 : (s.groups.length : Int) ≤ 16
  case neg =>
    have e : namedB s = false := by simp [namedB, h5]
    rw [e]
    clear e
    have h5 := Int.not_le.1 h5
    go_enter Tryz.func143, Tryz.ntmps143
    go_wp2_with (go_at_call 212; refine (isWordC_any _ _).mono ?_; rintro e w' ⟨rfl, rfl⟩)
    go_ret
    exact ⟨rfl, ((Fr.refl _ _).alloc _).alloc _⟩
  have he : namedB s = s.groups.all isWordB := by simp [namedB, h1, h2, h3, h4, h5]
  rw [he]
  clear he
  go_enter Tryz.func143, Tryz.ntmps143
  go_wp2_with (go_at_call 212; refine (isWordC_any _ _).mono ?_; rintro e w' ⟨rfl, rfl⟩)
  go_loop [39] (fun i => ∃ k : Nat, k ≤ s.groups.length ∧ i = .int .i64 k ∧ Hid (∀ j, j < k → isWordB (s.groups.getD j 0) = true)) (fun i => s.groups.length - (intOf i).toNat)
  case atStart => exact ⟨0, Nat.zero_le _, rfl, Lib.hid (fun j hj => by omega)⟩
  case round =>
    obtain ⟨k, hk, rfl, hw⟩ := hrel
    by_cases hlt : k < s.groups.length
    · rcases HA.out with h0 | ⟨b, off, rfl, hb, hc⟩
      · rw [h0] at hlt; simp at hlt
      have hcell := hc k hlt
      clear hc
      generalize hx : s.groups.getD k 0 = x at hcell
      have HX := Lib.hid hx
      clear hx
      by_cases hi : isWordB x = true
      · have hw' : Hid (∀ j, j < k + 1 → isWordB (s.groups.getD j 0) = true) := Lib.hid (fun j hj => by
          by_cases h : j < k
          · exact hw.out j h
          · obtain rfl : j = k := by omega
            rw [HX.out]; exact hi)
        go_wp2_with (go_at_call 212; refine (isWordC_any _ _).mono ?_; rintro e w' ⟨rfl, rfl⟩)
        exact ⟨⟨k + 1, by omega, by go_num, hw'⟩, by simp [intOf]; omega⟩
      · rw [Bool.not_eq_true] at hi
        go_wp2_with (go_at_call 212; refine (isWordC_any _ _).mono ?_; rintro e w' ⟨rfl, rfl⟩)
        go_ret
        rw [not_all_getD s.groups 0 isWordB k hlt (by rw [HX.out]; exact hi)]
        exact ⟨rfl, ((Fr.refl _ _).alloc _).alloc _⟩
    · go_wp2
      go_ret
      rw [all_getD s.groups 0 isWordB (fun j hj => hw.out j (by omega))]
      exact ⟨rfl, ((Fr.refl _ _).alloc _).alloc _⟩

def WSt.uints (st : WSt) (l : List Int) : WSt := l.foldl WSt.uint st
def WSt.sys (st : WSt) (s : SysM) : WSt := (((((st.uint s.stamp).opq 255 s.machine).uint s.user).uint s.group).count 16 s.groups.length).uints s.groups
theorem WOk.uints {st : WSt} (h : WOk st) (l : List Int) : WOk (st.uints l) := by
  induction l generalizing st with
  | nil => exact h
  | cons a l ih => exact ih (h.uint a)
theorem WOk.sys {st : WSt} (h : WOk st) (s : SysM) : WOk (st.sys s) := (((((h.uint _).opq _ _).uint _).uint _).count _ _).uints _
theorem uints_succ (st : WSt) (l : List Int) (k : Nat) (h : k < l.length) : st.uints (l.take (k + 1)) = (st.uints (l.take k)).uint (l.getD k 0) := by
  rw [getD_lt l 0 h, List.take_succ_eq_append_getElem h, WSt.uints, List.foldl_append]
  rfl

theorem box5 {w : World} {b t : Nat} {v0 v1 v2 v3 v4 : Value} (h : Hid (w.heap[b]? = some (.cells #[v0, v1, v2, v3, v4] t (0, 0)))) :
    w.cell? ⟨b, 0, none⟩ = some v0 ∧ w.cell? ⟨b, 1, none⟩ = some v1 ∧ w.cell? ⟨b, 2, none⟩ = some v2 ∧ w.cell? ⟨b, 3, none⟩ = some v3 ∧ w.cell? ⟨b, 4, none⟩ = some v4 :=
  ⟨cellOf h.out 0, cellOf h.out 1, cellOf h.out 2, cellOf h.out 3, cellOf h.out 4⟩
theorem hidMove {w w' : World} {S : Nat → Prop} {b : Nat} {o : Obj} (h : Hid (w.heap[b]? = some o)) (hf : Fr S w w') (hs : ¬ S b) : Hid (w'.heap[b]? = some o) :=
  Lib.hid ((hf.block b (lt_of_block h.out) hs).trans h.out)

set_option maxRecDepth 100000 in
set_option maxHeartbeats 4000000 in
theorem lays_any {F : Nat → Prop} {b : Nat} {st : WSt} (s : SysM) (A : Option Addr) (c : Nat) (w : World) (h : Wr w F b st) (hk : WOk st) (hA : IntsAt w A s.groups) (hd : ∀ a, A = some a → ¬ F a.block)
    (hm : s.machine.size ≤ 140737488351232) (hg : s.groups.length ≤ 140737488351232) :
    Calls Tryz.prog 145 #[sysV s A c, .pointer (some ⟨b, 0, none⟩)] w fun r w' => r = .returned (.tuple #[]) ∧ Fr F w w' ∧ Wr w' (Gw F w w') b (st.sys s) ∧ WOk (st.sys s) := by
  have HA := Lib.hid hA
  have HD := Lib.hid hd
  have HK := Lib.hid (hk.sys s)
  have hlow := h.low
  have hnb : ¬ F w.heap.size := fun h' => by have := hlow _ h'; omega
  have hb : Below w.heap.size w (w.alloc (.cells #[.int .i64 s.stamp, .string s.machine, .int .i64 s.user, .int .i64 s.group, .slice A s.groups.length c] 249)) := (Below.refl _ _).alloc (Nat.le_refl _) _
  have hw := Wi.start (lo := w.heap.size + 1) h hk hb (by omega) (by simp)
  have hx := Lib.hid (heap_alloc_new w (.cells #[.int .i64 s.stamp, .string s.machine, .int .i64 s.user, .int .i64 s.group, .slice A s.groups.length c] 249))
  have hout : ¬ Out F (w.heap.size + 1) w.heap.size := fun h' => h'.elim hnb (fun h' => by omega)
  clear hA hd hk h hb
  unfold sysV WSt.sys
  go_enter Tryz.func145, Tryz.ntmps145
  go_wp2_with (first | (go_at_call 213; refine (hw.uint _).mono ?_; rintro e w2 ⟨rfl, hw, hk⟩; have hx := hidMove hx hk hout; have hc := box5 hx; obtain ⟨hc0, hc1, hc2, hc3, hc4⟩ := hc) | (go_at_call 214; refine (hw.opq _ _ hm).mono ?_; rintro e w2 ⟨rfl, hw, hk⟩; have hx := hidMove hx hk hout; have hc := box5 hx; obtain ⟨hc0, hc1, hc2, hc3, hc4⟩ := hc) | (go_at_call 215; refine (hw.count _ _).mono ?_; rintro e w2 ⟨rfl, hw, hk⟩; have hx := hidMove hx hk hout; have hc := box5 hx; obtain ⟨hc0, hc1, hc2, hc3, hc4⟩ := hc))
  clear hc0 hc1 hc2 hc3 hc4 hx
  have HW := Lib.hid hw
  clear hw
  go_loopw [36] (fun i wr => ∃ k : Nat, k ≤ s.groups.length ∧ i = .int .i64 k ∧ Hid (Wi w F (w.heap.size + 1) b wr ((((((st.uint s.stamp).opq 255 s.machine).uint s.user).uint s.group).count 16 s.groups.length).uints (s.groups.take k)))) (fun i _ => s.groups.length - (intOf i).toNat)
  case atStart => exact ⟨0, Nat.zero_le _, rfl, HW⟩
  case round =>
    obtain ⟨k, hkk, rfl, hwk⟩ := hrel
    clear HW
    by_cases hlt : k < s.groups.length
    · rcases HA.out with h0 | ⟨gb, off, rfl, hb, hc⟩
      · rw [h0] at hlt; simp at hlt
      have hcell : wr.cell? ⟨gb, off + k, none⟩ = some (.int .i64 (s.groups.getD k 0)) :=
        (World.cell?_of_block (w := w) (a := ⟨gb, off + k, none⟩) (hwk.out.fr.block gb hb (HD.out _ rfl))).trans (hc k hlt)
      clear hc
      have hs := uints_succ (((((st.uint s.stamp).opq 255 s.machine).uint s.user).uint s.group).count 16 s.groups.length) s.groups k hlt
      generalize hx : s.groups.getD k 0 = x at hcell hs
      have HX := Lib.hid hx
      have HS := Lib.hid hs
      clear hx hs
      have hw := hwk.out
      go_wp2_with (go_at_call 213; refine (hw.uint _).mono ?_; rintro e w2 ⟨rfl, hw, hk⟩)
      exact ⟨⟨k + 1, by omega, by go_num, Lib.hid (by rw [HS.out]; exact hw)⟩, by simp [intOf]; omega⟩
    · have hk2 : s.groups.take k = s.groups := List.take_of_length_le (by omega)
      rw [hk2] at hwk
      clear hk2
      go_wp2
      go_end0
      exact ⟨rfl, hwk.out.fr, hwk.out.finish hlow, HK.out⟩

theorem Wi.sys {w0 w : World} {F0 : Nat → Prop} {lo b : Nat} {st : WSt} (h : Wi w0 F0 lo b w st) (s : SysM) (A : Option Addr) (c : Nat) (hA : IntsAt w A s.groups) (hd : ∀ a, A = some a → ¬ Out F0 lo a.block)
    (hm : s.machine.size ≤ 140737488351232) (hg : s.groups.length ≤ 140737488351232) :
    Calls Tryz.prog 145 #[sysV s A c, .pointer (some ⟨b, 0, none⟩)] w fun r w' => r = .returned (.tuple #[]) ∧ Wi w0 F0 lo b w' (st.sys s) ∧ Fr (Out F0 lo) w w' :=
  h.step' (h.ok.sys s) (fun F hw hF => (lays_any s A c w hw h.ok hA (fun a ha hf => hd a ha (hF _ hf)) hm hg).mono fun _ _ ⟨h1, h2, h3, _⟩ => ⟨h1, h2, h3⟩)

end Go.Proofs.YtbegjpmifcnieaaGreatDoor

/- Package cred: PrintSys. -/
namespace Go.Proofs.YtbegjpmifcnieaaGreatDoor
open Go.RowKit
set_option linter.unusedVariables false
set_option linter.unusedSimpArgs false

def newW (most : Int) : WSt := ⟨ByteArray.empty, most, 0⟩
theorem newW_ok {m : Int} (h : 0 ≤ m) (h2 : m ≤ 1099511627776) : WOk (newW m) := ⟨by simpa [newW] using h, h2⟩

theorem box2 {w : World} {b t : Nat} {v0 v1 : Value} (h : Hid (w.heap[b]? = some (.cells #[v0, v1] t (0, 0)))) :
    w.cell? ⟨b, 0, none⟩ = some v0 ∧ w.cell? ⟨b, 1, none⟩ = some v1 ∧ w.frozen? ⟨b, 0, none⟩ = false ∧ w.frozen? ⟨b, 1, none⟩ = false :=
  ⟨cellOf h.out 0, cellOf h.out 1, freeOf h.out 0, freeOf h.out 1⟩
theorem heap_two {w : World} {a b : Obj} : ((w.alloc a).alloc b).heap[w.heap.size + 1]? = some b := by
  have := heap_alloc_new (w.alloc a) b
  rwa [World.size_alloc] at this
theorem heap_three {w : World} {a b c : Obj} : (((w.alloc a).alloc b).alloc c).heap[w.heap.size + 1 + 1]? = some c := by
  have := heap_alloc_new ((w.alloc a).alloc b) c
  rwa [World.size_alloc, World.size_alloc] at this
theorem heap_old {w : World} {o : Obj} {k : Nat} {x : Obj} (h : w.heap[k]? = some x) : (w.alloc o).heap[k]? = some x := by
  rw [Below.heap_alloc _ _ _ (lt_of_block h)]; exact h

/-- what PrintSys tells: the flavor, the body, the error. -/
def printSysM (s : SysM) : Int × ByteArray × Int := if namedB s = true then (1, ((newW 1024).sys s).body, 0) else (0, ByteArray.empty, 110)

set_option maxRecDepth 100000 in
set_option maxHeartbeats 4000000 in
theorem PrintSys_any (s : SysM) (A : Option Addr) (c : Nat) (w : World) (hA : IntsAt w A s.groups) (hg : ErrT w) (hal : ∀ a, A = some a → a.block < w.heap.size) (hm : s.machine.size ≤ 140737488351232) (hgl : s.groups.length ≤ 140737488351232) :
    Calls Tryz.prog 74 #[sysV s A c] w fun r w' => r = .returned (.tuple #[.agg #[.int .i64 (printSysM s).1, .string (printSysM s).2.1], .int .i64 (printSysM s).2.2]) ∧ Fr (fun _ => False) w w' := by
  have HG := Lib.hid hg
  have HD := Lib.hid hal
  have hb3 : Below w.heap.size w (((w.alloc (.cells #[.int .i64 s.stamp, .string s.machine, .int .i64 s.user, .int .i64 s.group, .slice A s.groups.length c] 26)).alloc (.cells #[.int .i64 0, .string ByteArray.empty] 43)).alloc (.cells #[.int .i64 s.stamp, .string s.machine, .int .i64 s.user, .int .i64 s.group, .slice A s.groups.length c] 249)) :=
    (((Below.refl _ _).alloc (Nat.le_refl _) _).alloc (by simp) _).alloc (by simp; omega) _
  have hA3 := hA.below hb3
  have HA3 := Lib.hid hA3
  have hxa := Lib.hid (heap_old (o := .cells #[.int .i64 s.stamp, .string s.machine, .int .i64 s.user, .int .i64 s.group, .slice A s.groups.length c] 249) (heap_two (w := w) (a := .cells #[.int .i64 s.stamp, .string s.machine, .int .i64 s.user, .int .i64 s.group, .slice A s.groups.length c] 26) (b := .cells #[.int .i64 0, .string ByteArray.empty] 43)))
  have hxn := Lib.hid (heap_three (w := w) (a := .cells #[.int .i64 s.stamp, .string s.machine, .int .i64 s.user, .int .i64 s.group, .slice A s.groups.length c] 26) (b := .cells #[.int .i64 0, .string ByteArray.empty] 43) (c := .cells #[.int .i64 s.stamp, .string s.machine, .int .i64 s.user, .int .i64 s.group, .slice A s.groups.length c] 249))
  have HB := Lib.hid hb3
  clear hA hg hal hA3 hb3
  by_cases hn : namedB s = true
  · have e : printSysM s = (1, ((newW 1024).sys s).body, 0) := by simp [printSysM, hn]
    rw [e]
    clear e
    unfold sysV
    go_enter Tryz.func74, Tryz.ntmps74
    go_wp2_with (go_at_call 143; refine (named_any s A c _ HA3.out).mono ?_; rintro e w1 ⟨rfl, hf1⟩; have hxa := hidMove hxa hf1 id; have hxn := hidMove hxn hf1 id; obtain ⟨n0, n1, n2, n3, n4⟩ := box5 hxn)
    refine (WNew_any 1024 _ (by decide)).mono ?_
    rintro e w2 ⟨rfl, hf2, hw2⟩
    have e4 : max (1024 : Int) 0 = 1024 := by decide
    rw [e4] at hw2
    clear e4
    have hxa := hidMove hxa hf2 id
    have hxn := hidMove hxn hf2 id
    obtain ⟨n0, n1, n2, n3, n4⟩ := box5 hxn
    have hA2 := (HA3.out.fr hf1 (fun _ _ h => h)).fr hf2 (fun _ _ h => h)
    have hz1 : w.heap.size + 3 ≤ w1.heap.size := by have := hf1.size; simp at this; omega
    have hd : ∀ a, A = some a → ¬ a.block = w1.heap.size := fun a ha e => by have := HD.out a ha; omega
    have HA2 := Lib.hid hA2
    have Hd := Lib.hid hd
    clear hA2 hd
    go_wp2_with (go_at_call 145; refine (lays_any s A c _ hw2 (newW_ok (m := 1024) (by decide) (by decide)) HA2.out Hd.out hm hgl).mono ?_; rintro e w3 ⟨rfl, hf3, hw3, hok3⟩)
    have hxa := hidMove hxa hf3 (by omega)
    have hf13 : Fr (fun _ => False) w w3 := ((Fr.ofBelow HB.out).then hf1 (fun _ _ h => h)).then (hf2.then hf3 (fun i hi e => by omega)) (fun _ _ h => h)
    have hg3 := HG.out.fr hf13 id
    have HG3 := Lib.hid hg3
    clear hg3
    go_wp2_with (go_at_call 146; refine (WDone_any _ hw3 HG3.out).mono ?_; rintro e w4 ⟨rfl, hf4⟩; have hxa := hidMove hxa hf4 id; obtain ⟨a0, a1, fa0, fa1⟩ := box2 hxa)
    have hsz4 : w.heap.size + 1 < w4.heap.size := lt_of_block hxa.out
    refine bodyPost_ret (v := .tuple #[.agg #[.int .i64 1, .string ((newW 1024).sys s).body], .int .i64 0]) ?_ rfl ⟨rfl, ?_⟩
    · simp [results, Tryz.results74, go_sem, a0, a1, newW]
    · exact ((hf13.then hf4 (fun _ _ h => h)).setCell (.inr (by simp)) _).setCell (.inr (by simp)) _
  · have e : printSysM s = (0, ByteArray.empty, 110) := by simp [printSysM, hn]
    rw [e]
    clear e
    unfold sysV
    rw [Bool.not_eq_true] at hn
    go_enter Tryz.func74, Tryz.ntmps74
    go_wp2_with (go_at_call 143; refine (named_any s A c _ HA3.out).mono ?_; rintro e w1 ⟨rfl, hf1⟩; have hxa := hidMove hxa hf1 id; obtain ⟨a0, a1, fa0, fa1⟩ := box2 hxa)
    have hsz4 : w.heap.size + 1 < w1.heap.size := lt_of_block hxa.out
    refine bodyPost_ret (v := .tuple #[.agg #[.int .i64 0, .string ByteArray.empty], .int .i64 110]) ?_ rfl ⟨rfl, ?_⟩
    · simp [results, Tryz.results74, go_sem, a0, a1]
      rfl
    · exact (((Fr.ofBelow HB.out).then hf1 (fun _ _ h => h)).setCell (.inr (by simp)) _).setCell (.inr (by simp)) _

end Go.Proofs.YtbegjpmifcnieaaGreatDoor

/- Package cred: marks: whether one may be, and PrintMark. -/
namespace Go.Proofs.YtbegjpmifcnieaaGreatDoor
open Go.RowKit
set_option linter.unusedVariables false
set_option linter.unusedSimpArgs false

def inB (n : Int) : Bool := decide (1 ≤ n) && decide (n ≤ 4294967295)
theorem inB_of {n : Int} (h : 1 ≤ n ∧ n ≤ 4294967295) : inB n = true := by simp [inB, h.1, h.2]
theorem inB_no {n : Int} (h : ¬ (1 ≤ n ∧ n ≤ 4294967295)) : inB n = false := by
  rw [← Bool.not_eq_true]; intro h2; simp [inB] at h2; exact h h2

theorem mayIn_any (n : Int) (w : World) : Calls Tryz.prog 245 #[.int .i64 n] w fun r w' => r = .returned (.bool (inB n)) ∧ w = w' := by
  by_cases h : 1 ≤ n
  · by_cases h2 : n ≤ 4294967295
    · rw [inB_of ⟨h, h2⟩]
      go_enter Tryz.func245, Tryz.ntmps245
      go_wp2
      go_ret
      exact ⟨rfl, rfl⟩
    · rw [inB_no (fun h => h2 h.2)]
      go_enter Tryz.func245, Tryz.ntmps245
      go_wp2
      go_ret
      exact ⟨rfl, rfl⟩
  · rw [inB_no (fun h2 => h h2.1)]
    go_enter Tryz.func245, Tryz.ntmps245
    go_wp2
    go_ret
    exact ⟨rfl, rfl⟩

structure MarkM where
  inst : Int
  seq : Int
  water : Int
  sys : SysM

/-- package cred's own mark, and api.Mark. -/
def cmarkV (m : MarkM) (A : Option Addr) (c : Nat) : Value := .agg #[.int .i64 m.sys.stamp, .string m.sys.machine, .int .i64 m.sys.user, .int .i64 m.sys.group, .slice A m.sys.groups.length c, .int .i64 m.inst, .int .i64 m.seq, .int .i64 m.water]
def markV (m : MarkM) (A : Option Addr) (c : Nat) : Value := .agg #[.int .i64 m.inst, .int .i64 m.seq, .int .i64 m.water, .int .i64 m.sys.stamp, .string m.sys.machine, .int .i64 m.sys.user, .int .i64 m.sys.group, .slice A m.sys.groups.length c]

def mayB (m : MarkM) : Bool := decide (1 ≤ m.inst) && decide (m.inst ≤ 4611686018427387904) && inB m.seq && inB m.water && namedB m.sys

theorem may_any (m : MarkM) (A : Option Addr) (c : Nat) (w : World) (hA : IntsAt w A m.sys.groups) :
    Calls Tryz.prog 202 #[cmarkV m A c] w fun r w' => r = .returned (.bool (mayB m)) ∧ Fr (fun _ => False) w w' := by
  have HA := Lib.hid (hA.below ((Below.refl _ _).alloc (Nat.le_refl _) (.cells #[.int .i64 m.sys.stamp, .string m.sys.machine, .int .i64 m.sys.user, .int .i64 m.sys.group, .slice A m.sys.groups.length c, .int .i64 m.inst, .int .i64 m.seq, .int .i64 m.water] 316)))
  clear hA
  unfold cmarkV
  by_cases h1 : 1 ≤ m.inst
  case neg =>
    have e : mayB m = false := by simp [mayB, h1]
    rw [e]
    clear e
    have h1 := Int.not_le.1 h1
    go_enter Tryz.func202, Tryz.ntmps202
    go_wp2_with (go_at_call 245; refine (mayIn_any _ _).mono ?_; rintro e w' ⟨rfl, rfl⟩)
    go_ret
    exact ⟨rfl, (Fr.refl _ _).alloc _⟩
  by_cases h2 : m.inst ≤ 4611686018427387904
  case neg =>
    have e : mayB m = false := by simp [mayB, h2]
    rw [e]
    clear e
    have h2 := Int.not_le.1 h2
    go_enter Tryz.func202, Tryz.ntmps202
    go_wp2_with (go_at_call 245; refine (mayIn_any _ _).mono ?_; rintro e w' ⟨rfl, rfl⟩)
    go_ret
    exact ⟨rfl, (Fr.refl _ _).alloc _⟩
  by_cases h3 : inB m.seq = true
  case neg =>
    have e : mayB m = false := by simp [mayB, h3]
    rw [e]
    clear e
    rw [Bool.not_eq_true] at h3
    go_enter Tryz.func202, Tryz.ntmps202
    go_wp2_with (go_at_call 245; refine (mayIn_any _ _).mono ?_; rintro e w' ⟨rfl, rfl⟩)
    go_ret
    exact ⟨rfl, (Fr.refl _ _).alloc _⟩
  by_cases h4 : inB m.water = true
  case neg =>
    have e : mayB m = false := by simp [mayB, h4]
    rw [e]
    clear e
    rw [Bool.not_eq_true] at h4
    go_enter Tryz.func202, Tryz.ntmps202
    go_wp2_with (go_at_call 245; refine (mayIn_any _ _).mono ?_; rintro e w' ⟨rfl, rfl⟩)
    go_ret
    exact ⟨rfl, (Fr.refl _ _).alloc _⟩
  have e : mayB m = namedB m.sys := by simp [mayB, h1, h2, h3, h4]
  rw [e]
  clear e
  go_enter Tryz.func202, Tryz.ntmps202
  go_wp2_with (first | (go_at_call 245; refine (mayIn_any _ _).mono ?_; rintro e w' ⟨rfl, rfl⟩) | (go_at_call 143; refine (named_any m.sys A c _ HA.out).mono ?_; rintro e w1 ⟨rfl, hf1⟩))
  go_ret
  exact ⟨rfl, ((Fr.refl _ _).alloc _).then hf1 (fun _ _ h => h)⟩

/-- what PrintMark tells: the flavor, the body, the error. -/
def printMarkM (m : MarkM) : Int × ByteArray × Int :=
  if mayB m = true then (1296126539, (((((newW 1024).hyper m.inst).hyper m.seq).hyper m.water).sys m.sys).body, 0) else (0, ByteArray.empty, 110)

theorem box8 {w : World} {b t : Nat} {v0 v1 v2 v3 v4 v5 v6 v7 : Value} (h : Hid (w.heap[b]? = some (.cells #[v0, v1, v2, v3, v4, v5, v6, v7] t (0, 0)))) :
    w.cell? ⟨b, 0, none⟩ = some v0 ∧ w.cell? ⟨b, 1, none⟩ = some v1 ∧ w.cell? ⟨b, 2, none⟩ = some v2 ∧ w.cell? ⟨b, 3, none⟩ = some v3 ∧ w.cell? ⟨b, 4, none⟩ = some v4 ∧
      w.cell? ⟨b, 5, none⟩ = some v5 ∧ w.cell? ⟨b, 6, none⟩ = some v6 ∧ w.cell? ⟨b, 7, none⟩ = some v7 :=
  ⟨cellOf h.out 0, cellOf h.out 1, cellOf h.out 2, cellOf h.out 3, cellOf h.out 4, cellOf h.out 5, cellOf h.out 6, cellOf h.out 7⟩

set_option maxRecDepth 100000 in
set_option maxHeartbeats 4000000 in
theorem PrintMark_any (m : MarkM) (A : Option Addr) (c : Nat) (w : World) (hA : IntsAt w A m.sys.groups) (hg : ErrT w) (hal : ∀ a, A = some a → a.block < w.heap.size) (hm : m.sys.machine.size ≤ 140737488351232) (hgl : m.sys.groups.length ≤ 140737488351232) :
    Calls Tryz.prog 126 #[markV m A c] w fun r w' => r = .returned (.tuple #[.agg #[.int .i64 (printMarkM m).1, .string (printMarkM m).2.1], .int .i64 (printMarkM m).2.2]) ∧ Fr (fun _ => False) w w' := by
  have HG := Lib.hid hg
  have HD := Lib.hid hal
  have hb3 : Below w.heap.size w (((w.alloc (.cells #[.int .i64 m.inst, .int .i64 m.seq, .int .i64 m.water, .int .i64 m.sys.stamp, .string m.sys.machine, .int .i64 m.sys.user, .int .i64 m.sys.group, .slice A m.sys.groups.length c] 132)).alloc (.cells #[.int .i64 0, .string ByteArray.empty] 43)).alloc (.cells #[.int .i64 m.sys.stamp, .string m.sys.machine, .int .i64 m.sys.user, .int .i64 m.sys.group, .slice A m.sys.groups.length c, .int .i64 m.inst, .int .i64 m.seq, .int .i64 m.water] 316)) :=
    (((Below.refl _ _).alloc (Nat.le_refl _) _).alloc (by simp) _).alloc (by simp; omega) _
  have HA3 := Lib.hid (hA.below hb3)
  have hxa := Lib.hid (heap_old (o := .cells #[.int .i64 m.sys.stamp, .string m.sys.machine, .int .i64 m.sys.user, .int .i64 m.sys.group, .slice A m.sys.groups.length c, .int .i64 m.inst, .int .i64 m.seq, .int .i64 m.water] 316) (heap_two (w := w) (a := .cells #[.int .i64 m.inst, .int .i64 m.seq, .int .i64 m.water, .int .i64 m.sys.stamp, .string m.sys.machine, .int .i64 m.sys.user, .int .i64 m.sys.group, .slice A m.sys.groups.length c] 132) (b := .cells #[.int .i64 0, .string ByteArray.empty] 43)))
  have hxn := Lib.hid (heap_three (w := w) (a := .cells #[.int .i64 m.inst, .int .i64 m.seq, .int .i64 m.water, .int .i64 m.sys.stamp, .string m.sys.machine, .int .i64 m.sys.user, .int .i64 m.sys.group, .slice A m.sys.groups.length c] 132) (b := .cells #[.int .i64 0, .string ByteArray.empty] 43) (c := .cells #[.int .i64 m.sys.stamp, .string m.sys.machine, .int .i64 m.sys.user, .int .i64 m.sys.group, .slice A m.sys.groups.length c, .int .i64 m.inst, .int .i64 m.seq, .int .i64 m.water] 316))
  have HB := Lib.hid hb3
  clear hA hg hal hb3
  by_cases hn : mayB m = true
  · have e : printMarkM m = (1296126539, (((((newW 1024).hyper m.inst).hyper m.seq).hyper m.water).sys m.sys).body, 0) := by simp [printMarkM, hn]
    rw [e]
    clear e
    unfold markV
    go_enter Tryz.func126, Tryz.ntmps126
    go_wp2_with (go_at_call 202; refine (may_any m A c _ HA3.out).mono ?_; rintro e w1 ⟨rfl, hf1⟩; have hxa := hidMove hxa hf1 id; have hxn := hidMove hxn hf1 id)
    refine (WNew_any 1024 _ (by decide)).mono ?_
    rintro e w2 ⟨rfl, hf2, hw2⟩
    have e4 : max (1024 : Int) 0 = 1024 := by decide
    rw [e4] at hw2
    clear e4
    have hxa := hidMove hxa hf2 id
    have hxn := hidMove hxn hf2 id
    obtain ⟨n0, n1, n2, n3, n4, n5, n6, n7⟩ := box8 hxn
    have hz1 : w.heap.size + 3 ≤ w1.heap.size := by have := hf1.size; simp at this; omega
    have hz2 := hf2.size
    have hI : Wi w2 (fun k => k = w1.heap.size) w2.heap.size w1.heap.size w2 (newW 1024) := Wi.begin hw2 (newW_ok (by decide) (by decide))
    have ho1 : ¬ Out (fun k => k = w1.heap.size) w2.heap.size (w.heap.size + 1) := fun h => by rcases h with h | h <;> omega
    have ho2 : ¬ Out (fun k => k = w1.heap.size) w2.heap.size (w.heap.size + 1 + 1) := fun h => by rcases h with h | h <;> omega
    have Hd : Hid (∀ a, A = some a → ¬ Out (fun k => k = w1.heap.size) w2.heap.size a.block) := Lib.hid (fun a ha h => by have := HD.out a ha; rcases h with h | h <;> omega)
    have HA2 := Lib.hid ((HA3.out.fr hf1 (fun _ _ h => h)).fr hf2 (fun _ _ h => h))
    have hacc : Fr (Out (fun k => k = w1.heap.size) w2.heap.size) w2 w2 := Fr.refl _ _
    go_wp2_with (first | (go_at_call 203; refine (hI.hyper _).mono ?_; rintro e w3 ⟨rfl, hI, hk⟩; have hacc := hacc.trans hk; have hxn := hidMove hxn hk ho2; obtain ⟨n0, n1, n2, n3, n4, n5, n6, n7⟩ := box8 hxn) | (go_at_call 145; refine (hI.sys m.sys A c (HA2.out.fr hacc Hd.out) Hd.out hm hgl).mono ?_; rintro e w3 ⟨rfl, hI, hk⟩; have hacc := hacc.trans hk))
    have hxa := hidMove hxa hacc ho1
    have hf24 : Fr (fun _ => False) w w2 := ((Fr.ofBelow HB.out).then hf1 (fun _ _ h => h)).then hf2 (fun _ _ h => h)
    have hf13 := hf24.then hI.fr (fun i hi e => by omega)
    have HG3 := Lib.hid (HG.out.fr hf13 id)
    go_wp2_with (go_at_call 146; refine (hI.done HG3.out).mono ?_; rintro e w4 ⟨rfl, hf4⟩; have hxa := hidMove hxa hf4 id; obtain ⟨a0, a1, fa0, fa1⟩ := box2 hxa)
    have hsz4 : w.heap.size + 1 < w4.heap.size := lt_of_block hxa.out
    refine bodyPost_ret (v := .tuple #[.agg #[.int .i64 1296126539, .string (((((newW 1024).hyper m.inst).hyper m.seq).hyper m.water).sys m.sys).body], .int .i64 0]) ?_ rfl ⟨rfl, ?_⟩
    · simp [results, Tryz.results126, go_sem, a0, a1]
    · exact ((hf13.then hf4 (fun _ _ h => h)).setCell (.inr (by simp)) _).setCell (.inr (by simp)) _
  · have e : printMarkM m = (0, ByteArray.empty, 110) := by simp [printMarkM, hn]
    rw [e]
    clear e
    unfold markV
    rw [Bool.not_eq_true] at hn
    go_enter Tryz.func126, Tryz.ntmps126
    go_wp2_with (go_at_call 202; refine (may_any m A c _ HA3.out).mono ?_; rintro e w1 ⟨rfl, hf1⟩; have hxa := hidMove hxa hf1 id; obtain ⟨a0, a1, fa0, fa1⟩ := box2 hxa)
    have hsz4 : w.heap.size + 1 < w1.heap.size := lt_of_block hxa.out
    refine bodyPost_ret (v := .tuple #[.agg #[.int .i64 0, .string ByteArray.empty], .int .i64 110]) ?_ rfl ⟨rfl, ?_⟩
    · simp [results, Tryz.results126, go_sem, a0, a1]
      rfl
    · exact (((Fr.ofBelow HB.out).then hf1 (fun _ _ h => h)).setCell (.inr (by simp)) _).setCell (.inr (by simp)) _

end Go.Proofs.YtbegjpmifcnieaaGreatDoor
