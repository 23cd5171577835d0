/- Package cred: who somebody says to be: whether it may be, and how it is laid down. -/
import Derived.Test.YtlcjfafmmoncpaaGreatDoorXi
namespace Go.Proofs.YtlcjfafmmoncpaaGreatDoor
open Go.RowKit
set_option linter.unusedVariables false
set_option linter.unusedSimpArgs false

structure SysM where
  stamp : Int
  machine : ByteArray
  user : Int
  group : Int
  groups : List Int

def sysV (s : SysM) (A : Option Addr) (c : Nat) : Value := .agg #[.int .i64 s.stamp, .string s.machine, .int .i64 s.user, .int .i64 s.group, .slice A s.groups.length c]

/-- a slice's numbers, as they lie. -/
def IntsAt (w : World) (A : Option Addr) (xs : List Int) : Prop :=
  xs = [] ∨ ∃ b off, A = some ⟨b, off, none⟩ ∧ b < w.heap.size ∧ ∀ j, j < xs.length → w.cell? ⟨b, off + j, none⟩ = some (.int .i64 (xs.getD j 0))
theorem IntsAt.fr {w w' : World} {S : Nat → Prop} {A : Option Addr} {xs : List Int} (h : IntsAt w A xs) (hf : Fr S w w') (hs : ∀ a, A = some a → ¬ S a.block) : IntsAt w' A xs := by
  rcases h with h | ⟨b, off, rfl, hb, hc⟩
  · exact .inl h
  · exact .inr ⟨b, off, rfl, Nat.lt_of_lt_of_le hb hf.size, fun j hj => (World.cell?_of_block (w := w) (a := ⟨b, off + j, none⟩) (hf.block b hb (hs _ rfl))).trans (hc j hj)⟩
theorem IntsAt.below {w w' : World} {A : Option Addr} {xs : List Int} (h : IntsAt w A xs) (hf : Below w.heap.size w w') : IntsAt w' A xs :=
  h.fr (S := fun _ => False) (Fr.ofBelow hf) (fun _ _ h => h)

theorem isWordC_any (n : Int) (w : World) : Calls Tryz.prog 168 #[.int .i64 n] w fun r w' => r = .returned (.bool (isWordB n)) ∧ w = w' := by
  by_cases h : 0 ≤ n
  · by_cases h2 : n ≤ 4294967295
    · rw [isWordB_of ⟨h, h2⟩]
      go_enter Tryz.func168, Tryz.ntmps168
      go_wp2
      go_ret
      exact ⟨rfl, rfl⟩
    · rw [isWordB_no (fun h => h2 h.2)]
      go_enter Tryz.func168, Tryz.ntmps168
      go_wp2
      go_ret
      exact ⟨rfl, rfl⟩
  · rw [isWordB_no (fun h2 => h h2.1)]
    go_enter Tryz.func168, Tryz.ntmps168
    go_wp2
    go_ret
    exact ⟨rfl, rfl⟩

def namedB (s : SysM) : Bool :=
  isWordB s.stamp && isWordB s.user && isWordB s.group && decide ((s.machine.size : Int) ≤ 255) && decide ((s.groups.length : Int) ≤ 16) && s.groups.all isWordB

set_option maxRecDepth 100000 in
set_option maxHeartbeats 2000000 in
theorem named_any (s : SysM) (A : Option Addr) (c : Nat) (w : World) (hA : IntsAt w A s.groups) :
    Calls Tryz.prog 142 #[sysV s A c] w fun r w' => r = .returned (.bool (namedB s)) ∧ Fr (fun _ => False) w w' := by
  have HA := Lib.hid hA
  clear hA
  unfold sysV
  by_cases h1 : isWordB s.stamp = true
  case neg =>
    have e : namedB s = false := by simp [namedB, h1]
    rw [e]
    clear e
    rw [Bool.not_eq_true] at h1
    go_enter Tryz.func142, Tryz.ntmps142
    go_wp2_with (go_at_call 168; refine (isWordC_any _ _).mono ?_; rintro e w' ⟨rfl, rfl⟩)
    go_ret
    exact ⟨rfl, ((Fr.refl _ _).alloc _).alloc _⟩
  by_cases h2 : isWordB s.user = true
  case neg =>
    have e : namedB s = false := by simp [namedB, h2]
    rw [e]
    clear e
    rw [Bool.not_eq_true] at h2
    go_enter Tryz.func142, Tryz.ntmps142
    go_wp2_with (go_at_call 168; refine (isWordC_any _ _).mono ?_; rintro e w' ⟨rfl, rfl⟩)
    go_ret
    exact ⟨rfl, ((Fr.refl _ _).alloc _).alloc _⟩
  by_cases h3 : isWordB s.group = true
  case neg =>
    have e : namedB s = false := by simp [namedB, h3]
    rw [e]
    clear e
    rw [Bool.not_eq_true] at h3
    go_enter Tryz.func142, Tryz.ntmps142
    go_wp2_with (go_at_call 168; refine (isWordC_any _ _).mono ?_; rintro e w' ⟨rfl, rfl⟩)
    go_ret
    exact ⟨rfl, ((Fr.refl _ _).alloc _).alloc _⟩
  by_cases h4 : (s.machine.size : Int) ≤ 255
  case neg =>
    have e : namedB s = false := by simp [namedB, h4]
    rw [e]
    clear e
    have h4 := Int.not_le.1 h4
    go_enter Tryz.func142, Tryz.ntmps142
    go_wp2_with (go_at_call 168; refine (isWordC_any _ _).mono ?_; rintro e w' ⟨rfl, rfl⟩)
    go_ret
    exact ⟨rfl, ((Fr.refl _ _).alloc _).alloc _⟩
  by_cases h5 : (s.groups.length : Int) ≤ 16
  case neg =>
    have e : namedB s = false := by simp [namedB, h5]
    rw [e]
    clear e
    have h5 := Int.not_le.1 h5
    go_enter Tryz.func142, Tryz.ntmps142
    go_wp2_with (go_at_call 168; refine (isWordC_any _ _).mono ?_; rintro e w' ⟨rfl, rfl⟩)
    go_ret
    exact ⟨rfl, ((Fr.refl _ _).alloc _).alloc _⟩
  have he : namedB s = s.groups.all isWordB := by simp [namedB, h1, h2, h3, h4, h5]
  rw [he]
  clear he
  go_enter Tryz.func142, Tryz.ntmps142
  go_wp2_with (go_at_call 168; refine (isWordC_any _ _).mono ?_; rintro e w' ⟨rfl, rfl⟩)
  go_loop [39] (fun i => ∃ k : Nat, k ≤ s.groups.length ∧ i = .int .i64 k ∧ Hid (∀ j, j < k → isWordB (s.groups.getD j 0) = true)) (fun i => s.groups.length - (intOf i).toNat)
  case atStart => exact ⟨0, Nat.zero_le _, rfl, Lib.hid (fun j hj => by omega)⟩
  case round =>
    obtain ⟨k, hk, rfl, hw⟩ := hrel
    by_cases hlt : k < s.groups.length
    · rcases HA.out with h0 | ⟨b, off, rfl, hb, hc⟩
      · rw [h0] at hlt; simp at hlt
      have hcell := hc k hlt
      clear hc
      generalize hx : s.groups.getD k 0 = x at hcell
      have HX := Lib.hid hx
      clear hx
      by_cases hi : isWordB x = true
      · have hw' : Hid (∀ j, j < k + 1 → isWordB (s.groups.getD j 0) = true) := Lib.hid (fun j hj => by
          by_cases h : j < k
          · exact hw.out j h
          · obtain rfl : j = k := by omega
            rw [HX.out]; exact hi)
        go_wp2_with (go_at_call 168; refine (isWordC_any _ _).mono ?_; rintro e w' ⟨rfl, rfl⟩)
        exact ⟨⟨k + 1, by omega, by go_num, hw'⟩, by simp [intOf]; omega⟩
      · rw [Bool.not_eq_true] at hi
        go_wp2_with (go_at_call 168; refine (isWordC_any _ _).mono ?_; rintro e w' ⟨rfl, rfl⟩)
        go_ret
        rw [not_all_getD s.groups 0 isWordB k hlt (by rw [HX.out]; exact hi)]
        exact ⟨rfl, ((Fr.refl _ _).alloc _).alloc _⟩
    · go_wp2
      go_ret
      rw [all_getD s.groups 0 isWordB (fun j hj => hw.out j (by omega))]
      exact ⟨rfl, ((Fr.refl _ _).alloc _).alloc _⟩

def WSt.uints (st : WSt) (l : List Int) : WSt := l.foldl WSt.uint st
def WSt.sys (st : WSt) (s : SysM) : WSt := (((((st.uint s.stamp).opq 255 s.machine).uint s.user).uint s.group).count 16 s.groups.length).uints s.groups
theorem WOk.uints {st : WSt} (h : WOk st) (l : List Int) : WOk (st.uints l) := by
  induction l generalizing st with
  | nil => exact h
  | cons a l ih => exact ih (h.uint a)
theorem WOk.sys {st : WSt} (h : WOk st) (s : SysM) : WOk (st.sys s) := (((((h.uint _).opq _ _).uint _).uint _).count _ _).uints _
theorem uints_succ (st : WSt) (l : List Int) (k : Nat) (h : k < l.length) : st.uints (l.take (k + 1)) = (st.uints (l.take k)).uint (l.getD k 0) := by
  rw [getD_lt l 0 h, List.take_succ_eq_append_getElem h, WSt.uints, List.foldl_append]
  rfl

theorem box5 {w : World} {b t : Nat} {v0 v1 v2 v3 v4 : Value} (h : Hid (w.heap[b]? = some (.cells #[v0, v1, v2, v3, v4] t (0, 0)))) :
    w.cell? ⟨b, 0, none⟩ = some v0 ∧ w.cell? ⟨b, 1, none⟩ = some v1 ∧ w.cell? ⟨b, 2, none⟩ = some v2 ∧ w.cell? ⟨b, 3, none⟩ = some v3 ∧ w.cell? ⟨b, 4, none⟩ = some v4 :=
  ⟨cellOf h.out 0, cellOf h.out 1, cellOf h.out 2, cellOf h.out 3, cellOf h.out 4⟩
theorem hidMove {w w' : World} {S : Nat → Prop} {b : Nat} {o : Obj} (h : Hid (w.heap[b]? = some o)) (hf : Fr S w w') (hs : ¬ S b) : Hid (w'.heap[b]? = some o) :=
  Lib.hid ((hf.block b (lt_of_block h.out) hs).trans h.out)

set_option maxRecDepth 100000 in
set_option maxHeartbeats 4000000 in
theorem lays_any {F : Nat → Prop} {b : Nat} {st : WSt} (s : SysM) (A : Option Addr) (c : Nat) (w : World) (h : Wr w F b st) (hk : WOk st) (hA : IntsAt w A s.groups) (hd : ∀ a, A = some a → ¬ F a.block)
    (hm : s.machine.size ≤ 140737488351232) (hg : s.groups.length ≤ 140737488351232) :
    Calls Tryz.prog 143 #[sysV s A c, .pointer (some ⟨b, 0, none⟩)] w fun r w' => r = .returned (.tuple #[]) ∧ Fr F w w' ∧ Wr w' (Gw F w w') b (st.sys s) ∧ WOk (st.sys s) := by
  have HA := Lib.hid hA
  have HD := Lib.hid hd
  have HK := Lib.hid (hk.sys s)
  have hlow := h.low
  have hnb : ¬ F w.heap.size := fun h' => by have := hlow _ h'; omega
  have hb : Below w.heap.size w (w.alloc (.cells #[.int .i64 s.stamp, .string s.machine, .int .i64 s.user, .int .i64 s.group, .slice A s.groups.length c] 174)) := (Below.refl _ _).alloc (Nat.le_refl _) _
  have hw := Wi.start (lo := w.heap.size + 1) h hk hb (by omega) (by simp)
  have hx := Lib.hid (heap_alloc_new w (.cells #[.int .i64 s.stamp, .string s.machine, .int .i64 s.user, .int .i64 s.group, .slice A s.groups.length c] 174))
  have hout : ¬ Out F (w.heap.size + 1) w.heap.size := fun h' => h'.elim hnb (fun h' => by omega)
  clear hA hd hk h hb
  unfold sysV WSt.sys
  go_enter Tryz.func143, Tryz.ntmps143
  go_wp2_with (first | (go_at_call 52; refine (hw.uint _).mono ?_; rintro e w2 ⟨rfl, hw, hk⟩; have hx := hidMove hx hk hout; have hc := box5 hx; obtain ⟨hc0, hc1, hc2, hc3, hc4⟩ := hc) | (go_at_call 47; refine (hw.opq _ _ hm).mono ?_; rintro e w2 ⟨rfl, hw, hk⟩; have hx := hidMove hx hk hout; have hc := box5 hx; obtain ⟨hc0, hc1, hc2, hc3, hc4⟩ := hc) | (go_at_call 66; refine (hw.count _ _).mono ?_; rintro e w2 ⟨rfl, hw, hk⟩; have hx := hidMove hx hk hout; have hc := box5 hx; obtain ⟨hc0, hc1, hc2, hc3, hc4⟩ := hc))
  clear hc0 hc1 hc2 hc3 hc4 hx
  have HW := Lib.hid hw
  clear hw
  go_loopw [36] (fun i wr => ∃ k : Nat, k ≤ s.groups.length ∧ i = .int .i64 k ∧ Hid (Wi w F (w.heap.size + 1) b wr ((((((st.uint s.stamp).opq 255 s.machine).uint s.user).uint s.group).count 16 s.groups.length).uints (s.groups.take k)))) (fun i _ => s.groups.length - (intOf i).toNat)
  case atStart => exact ⟨0, Nat.zero_le _, rfl, HW⟩
  case round =>
    obtain ⟨k, hkk, rfl, hwk⟩ := hrel
    clear HW
    by_cases hlt : k < s.groups.length
    · rcases HA.out with h0 | ⟨gb, off, rfl, hb, hc⟩
      · rw [h0] at hlt; simp at hlt
      have hcell : wr.cell? ⟨gb, off + k, none⟩ = some (.int .i64 (s.groups.getD k 0)) :=
        (World.cell?_of_block (w := w) (a := ⟨gb, off + k, none⟩) (hwk.out.fr.block gb hb (HD.out _ rfl))).trans (hc k hlt)
      clear hc
      have hs := uints_succ (((((st.uint s.stamp).opq 255 s.machine).uint s.user).uint s.group).count 16 s.groups.length) s.groups k hlt
      generalize hx : s.groups.getD k 0 = x at hcell hs
      have HX := Lib.hid hx
      have HS := Lib.hid hs
      clear hx hs
      have hw := hwk.out
      go_wp2_with (go_at_call 52; refine (hw.uint _).mono ?_; rintro e w2 ⟨rfl, hw, hk⟩)
      exact ⟨⟨k + 1, by omega, by go_num, Lib.hid (by rw [HS.out]; exact hw)⟩, by simp [intOf]; omega⟩
    · have hk2 : s.groups.take k = s.groups := List.take_of_length_le (by omega)
      rw [hk2] at hwk
      clear hk2
      go_wp2
      go_end0
      exact ⟨rfl, hwk.out.fr, hwk.out.finish hlow, HK.out⟩

theorem Wi.sys {w0 w : World} {F0 : Nat → Prop} {lo b : Nat} {st : WSt} (h : Wi w0 F0 lo b w st) (s : SysM) (A : Option Addr) (c : Nat) (hA : IntsAt w A s.groups) (hd : ∀ a, A = some a → ¬ Out F0 lo a.block)
    (hm : s.machine.size ≤ 140737488351232) (hg : s.groups.length ≤ 140737488351232) :
    Calls Tryz.prog 143 #[sysV s A c, .pointer (some ⟨b, 0, none⟩)] w fun r w' => r = .returned (.tuple #[]) ∧ Wi w0 F0 lo b w' (st.sys s) ∧ Fr (Out F0 lo) w w' :=
  h.step' (h.ok.sys s) (fun F hw hF => (lays_any s A c w hw h.ok hA (fun a ha hf => hd a ha (hF _ hf)) hm hg).mono fun _ _ ⟨h1, h2, h3, _⟩ => ⟨h1, h2, h3⟩)

end Go.Proofs.YtlcjfafmmoncpaaGreatDoor
