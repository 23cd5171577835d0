/- The document's client (callboxref17): New. -/
import Derived.Test.YtlcjfafmmoncpaaGreatDoorEc
import Derived.Test.YtlcjfafmmoncpaaGreatDoorR6
import Derived.Laws.OwnMore
import Derived.Maps.AppendAt
namespace Go.Proofs.YtlcjfafmmoncpaaGreatDoor
open Go.RowKit
set_option linter.unusedVariables false
set_option linter.unusedSimpArgs false

theorem run_append_nothing {P : Program} {w : World} (t ty e : TypeId) (i : TypeInfo) (ht : P.underlying t = some (.slice e)) (hi : P.info? e = some i) (c : Nat) :
    (Builtin.append_ #[t, t] ty #[.slice none 0 0, .slice none 0 c]).run P w = .ok (.slice none 0 0) w := by
  simp [Builtin.append_, run_underlying ht, sizeOf, typeInfo, hi, Builtin.lenOf, Builtin.firstCells]
/-- append(nil, xs...) of a list of numbers, wherever it lies. -/
theorem wpList_append_ints {w : World} {ops : Array Oper} {rest : List Oper} {o : Oper} {a : Act} {Q : Exit → Act → World → Prop} (hgd : o.guard = none) (s x : Operand)
    (ho : o.op = .call { callee := .builtin .append, args := #[s, x], argTypes := #[24, 24] })
    (A : Option Addr) (c : Nat) (xs : List Int) (hs : a.eval s = .slice none 0 0) (hx : a.eval x = .slice A xs.length c) (hA : IntsAt w A xs) (hl : xs.length ≤ 1099511627776)
    (h : ∀ v' w', w'.ownsRow w.heap.size 3 1 v' xs.length (xs.map (Value.int .i64)) → Below w.heap.size w w' → wpList Tryz.prog ops Q rest (a.put o.dst v') w') : wpList Tryz.prog ops Q (o :: rest) a w := by
  obtain ⟨i0, hi, hz0, hz1, hz2⟩ := info_parts Tryz.infoInt
  cases A with
  | none =>
    have hx0 : xs = [] := by
      rcases hA with h | ⟨b, off, h, _⟩
      · exact h
      · cases h
    subst hx0
    refine wpList_plain hgd fun K hK => ?_
    unfold Oper.wp execOp
    simp only [ho, resolve, invoke, builtin, Sem.run_bind, Sem.run_pure, Result.andThen_ok, List.map_toArray, List.map_cons, List.map_nil, hs, hx, List.length_nil, run_append_nothing 24 o.type 3 i0 Tryz.underlying24 hi c]
    exact hK _ _ (h _ _ ⟨by simp, .inl ⟨rfl, rfl⟩⟩ (Below.refl _ _))
  | some ad =>
    have hcell : ∀ (j : Nat) u, (xs.map (Value.int .i64))[j]? = some u → w.cell? (ad.add j) = some u := by
      intro j u hj
      have hjl : j < xs.length := by have := (List.getElem?_eq_some_iff.1 hj).1; simpa using this
      rcases hA with h0 | ⟨b, off, h0, _, hc⟩
      · subst h0; simp at hjl
      obtain rfl : ad = ⟨b, off, none⟩ := Option.some.inj h0
      have := hc j hjl
      rw [getD_lt xs 0 hjl] at this
      rw [List.getElem?_map, List.getElem?_eq_getElem hjl] at hj
      have hv : u = Value.int .i64 xs[j] := by simpa using hj.symm
      rw [hv, Go.WideShapes.add_plain]
      exact this
    refine wpList_append_own_at w hgd s x 24 ho w.heap.size 3 i0 (.int .i64 0) 1 8 Tryz.underlying24 hi hz0 hz1 hz2 (by rfl) (by decide) (.slice none 0 0) 0 [] hs ⟨by simp, .inl ⟨rfl, rfl⟩⟩ ad xs.length c (xs.map (Value.int .i64)) hx (by simp) hcell (fun u hu => by obtain ⟨y, _, rfl⟩ := List.mem_map.1 hu; rfl) (by unfold maxLen; omega) (by omega) (Nat.le_refl _) ?_
    intro v' w' ho' hg _ _
    refine h v' w' (by simpa using ho') ((Below.refl _ _).grown hg (Nat.le_refl _) (fun k e => by cases e))

/-- a new document's client. -/
def RNewCli (c : CfgM) (w w' : World) (b : Nat) : Prop := ∃ A n m, w.heap.size ≤ b ∧ w.heap.size ≤ m ∧ m ≠ b ∧ w'.heap[b]? = some (.cells (#[.int .i64 c.addr, .int .i64 c.inst, .int .i64 c.first, .int .i64 c.window, .int .i64 c.pace.base, .int .i64 c.pace.cap, .int .i64 c.pace.tries, .int .i64 c.sys.stamp, .string c.sys.machine, .int .i64 c.sys.user, .int .i64 c.sys.group, .slice A c.sys.groups.length n] ++ #[.int .i64 0, .int .i64 c.first, .slice none 0 0, .slice none 0 0, .pointer (some ⟨m, 0, none⟩)]) 154 (0, 0)) ∧
  w'.heap[m]? = some (.cells #[.bool false, .float .f32 0, .float .f32 0] 151 (0, 0)) ∧ IntsAt w' A c.sys.groups ∧ (∀ a, A = some a → w.heap.size ≤ a.block ∧ a.block < w'.heap.size ∧ a.block ≠ b ∧ a.block ≠ m)

theorem rNewCli_mk {c : CfgM} {A A3 : Option Addr} {c3 : Nat} {w w2 w3 : World} (hF : Fr (fun _ => False) w w2) (hI2 : IntsAt w2 A c.sys.groups) (ho : w3.ownsRow w2.heap.size 3 1 (.slice A3 c.sys.groups.length c3) c.sys.groups.length (c.sys.groups.map (Value.int .i64)))
    (hb : Below w2.heap.size w2 w3) (hz : w.heap.size < w2.heap.size) :
    Fr (fun _ => False) w (((w3.setCell ⟨w.heap.size, 11, none⟩ (.slice A3 c.sys.groups.length c3)).alloc (.cells #[.bool false, .float .f32 0, .float .f32 0] 151)).alloc (.cells (#[.int .i64 c.addr, .int .i64 c.inst, .int .i64 c.first, .int .i64 c.window, .int .i64 c.pace.base, .int .i64 c.pace.cap, .int .i64 c.pace.tries, .int .i64 c.sys.stamp, .string c.sys.machine, .int .i64 c.sys.user, .int .i64 c.sys.group, .slice A3 c.sys.groups.length c3, .int .i64 0, .int .i64 c.first, .slice none 0 0, .slice none 0 0, .pointer (some ⟨w3.heap.size, 0, none⟩)]) 154)) ∧
    RNewCli c w (((w3.setCell ⟨w.heap.size, 11, none⟩ (.slice A3 c.sys.groups.length c3)).alloc (.cells #[.bool false, .float .f32 0, .float .f32 0] 151)).alloc (.cells (#[.int .i64 c.addr, .int .i64 c.inst, .int .i64 c.first, .int .i64 c.window, .int .i64 c.pace.base, .int .i64 c.pace.cap, .int .i64 c.pace.tries, .int .i64 c.sys.stamp, .string c.sys.machine, .int .i64 c.sys.user, .int .i64 c.sys.group, .slice A3 c.sys.groups.length c3, .int .i64 0, .int .i64 c.first, .slice none 0 0, .slice none 0 0, .pointer (some ⟨w3.heap.size, 0, none⟩)]) 154)) (w3.heap.size + 1) := by
  have h3 := hb.size
  have h2 := hF.size
  have hs : (w3.setCell ⟨w.heap.size, 11, none⟩ (.slice A3 c.sys.groups.length c3)).heap.size = w3.heap.size := World.size_setCell _ _ _
  refine ⟨(((hF.then (Fr.ofBelow (S := fun _ => False) hb) (fun _ _ h => h)).setCell (.inr (Nat.le_refl _)) _).alloc _).alloc _, A3, c3, w3.heap.size, by omega, by omega, by omega, ?_, ?_, ?_, fun a ha => ?_⟩
  · have := heap_two (w := w3.setCell ⟨w.heap.size, 11, none⟩ (.slice A3 c.sys.groups.length c3)) (a := .cells #[.bool false, .float .f32 0, .float .f32 0] 151) (b := .cells (#[.int .i64 c.addr, .int .i64 c.inst, .int .i64 c.first, .int .i64 c.window, .int .i64 c.pace.base, .int .i64 c.pace.cap, .int .i64 c.pace.tries, .int .i64 c.sys.stamp, .string c.sys.machine, .int .i64 c.sys.user, .int .i64 c.sys.group, .slice A3 c.sys.groups.length c3, .int .i64 0, .int .i64 c.first, .slice none 0 0, .slice none 0 0, .pointer (some ⟨w3.heap.size, 0, none⟩)]) 154)
    rw [hs] at this
    exact this
  · have := heap_old (o := .cells (#[.int .i64 c.addr, .int .i64 c.inst, .int .i64 c.first, .int .i64 c.window, .int .i64 c.pace.base, .int .i64 c.pace.cap, .int .i64 c.pace.tries, .int .i64 c.sys.stamp, .string c.sys.machine, .int .i64 c.sys.user, .int .i64 c.sys.group, .slice A3 c.sys.groups.length c3, .int .i64 0, .int .i64 c.first, .slice none 0 0, .slice none 0 0, .pointer (some ⟨w3.heap.size, 0, none⟩)]) 154) (heap_alloc_new (w3.setCell ⟨w.heap.size, 11, none⟩ (.slice A3 c.sys.groups.length c3)) (.cells #[.bool false, .float .f32 0, .float .f32 0] 151))
    rw [hs] at this
    exact this
  · have hI := IntsAt.ofRow ho
    have hI5 := hI.fr ((Fr.refl (fun k => k = w.heap.size) w3).setCell (p := ⟨w.heap.size, 11, none⟩) (.inl rfl) (.slice A3 c.sys.groups.length c3)) (fun a ha e => by have := (ho.lt a.block (by rw [ha]; rfl)).1; omega)
    exact hI5.below (((Below.refl _ _).alloc (Nat.le_refl _) _).alloc (by simp) _)
  · have := ho.lt a.block (by rw [ha]; rfl)
    exact ⟨by omega, by simp; omega, by omega, by omega⟩

set_option maxRecDepth 100000 in
set_option maxHeartbeats 4000000 in
theorem rNew_no (c : CfgM) (A : Option Addr) (n : Nat) (w : World) (hA : IntsAt w A c.sys.groups) (hno : ¬ NewMay c) :
    Calls Tryz.prog 43 #[.agg (cfgCells c A n)] w fun r w' => r = .returned (.tuple #[.pointer none, .int .i64 170]) ∧ Fr (fun _ => False) w w' := by
  have hA1 := hA.below ((Below.refl w.heap.size w).alloc (Nat.le_refl _) (.cells (cfgCells c A n) 28))
  have hx := Lib.hid (heap_alloc_new w (.cells (cfgCells c A n) 28))
  have HA := Lib.hid hA1
  have HR := Lib.hid (rRight_any c.pace)
  have HS := Lib.hid (fun w' (hf : Fr (fun _ => False) (w.alloc (.cells (cfgCells c A n) 28)) w') => SysMay_any c.sys A n w' (hA1.fr hf (fun _ _ h => h)))
  have HN := Lib.hid hno
  clear hno
  clear hA hA1
  unfold cfgCells paceV at *
  go_enter Tryz.func43, Tryz.ntmps43
  go_wp2_with fail
  refine (HR.out _).mono ?_
  rintro e w1 ⟨rfl, hf1⟩
  have hx1 := blockMove hx hf1 id
  obtain ⟨n0, n1, n2, n3, n4, n5, n6, n7, n8, n9, n10, n11⟩ := box12 hx1
  go_wp2_with fail
  refine (HS.out _ hf1).mono ?_
  rintro e w2 ⟨rfl, hf2⟩
  have hx2 := blockMove hx1 hf2 id
  have HF := Lib.hid ((((Fr.refl (fun _ => False) w).alloc (.cells #[.int .i64 c.addr, .int .i64 c.inst, .int .i64 c.first, .int .i64 c.window, .int .i64 c.pace.base, .int .i64 c.pace.cap, .int .i64 c.pace.tries, .int .i64 c.sys.stamp, .string c.sys.machine, .int .i64 c.sys.user, .int .i64 c.sys.group, .slice A c.sys.groups.length n] 28)).trans hf1).trans hf2)
  have HA2 := Lib.hid ((HA.out.fr hf1 (fun _ _ h => h)).fr hf2 (fun _ _ h => h))
  have hz2 : w.heap.size < w2.heap.size := lt_of_block hx2.out
  clear hx hx1 hf1 hf2 HS HA n0 n1 n2 n3 n4 n5 n6 n7 n8 n9 n10 n11
  obtain ⟨n0, n1, n2, n3, n4, n5, n6, n7, n8, n9, n10, n11⟩ := box12 hx2
  by_cases h7 : rightB c.pace = true
  case neg =>
    rw [Bool.not_eq_true] at h7
    rw [h7]
    go_wp2_with fail
    refine bodyPost_ret (v := .tuple #[.pointer none, .int .i64 170]) ?_ rfl ⟨rfl, HF.out⟩
    simp [results, Tryz.results43, go_sem]
  rw [h7]
  by_cases h8 : namedB c.sys = true
  case neg =>
    rw [Bool.not_eq_true] at h8
    rw [h8]
    go_wp2_with fail
    refine bodyPost_ret (v := .tuple #[.pointer none, .int .i64 170]) ?_ rfl ⟨rfl, HF.out⟩
    simp [results, Tryz.results43, go_sem]
  rw [h8]
  by_cases a1 : 1 ≤ c.addr
  case neg =>
    have a1 := Int.not_le.1 a1
    go_wp2_with fail
    refine bodyPost_ret (v := .tuple #[.pointer none, .int .i64 170]) ?_ rfl ⟨rfl, HF.out⟩
    simp [results, Tryz.results43, go_sem]
  by_cases a2 : c.addr ≤ 16777215
  case neg =>
    have a2 := Int.not_le.1 a2
    go_wp2_with fail
    refine bodyPost_ret (v := .tuple #[.pointer none, .int .i64 170]) ?_ rfl ⟨rfl, HF.out⟩
    simp [results, Tryz.results43, go_sem]
  by_cases h1 : 1 ≤ c.inst
  case neg =>
    have h1 := Int.not_le.1 h1
    go_wp2_with fail
    refine bodyPost_ret (v := .tuple #[.pointer none, .int .i64 170]) ?_ rfl ⟨rfl, HF.out⟩
    simp [results, Tryz.results43, go_sem]
  by_cases h2 : c.inst ≤ 4611686018427387904
  case neg =>
    have h2 := Int.not_le.1 h2
    go_wp2_with fail
    refine bodyPost_ret (v := .tuple #[.pointer none, .int .i64 170]) ?_ rfl ⟨rfl, HF.out⟩
    simp [results, Tryz.results43, go_sem]
  by_cases h3 : 1 ≤ c.first
  case neg =>
    have h3 := Int.not_le.1 h3
    go_wp2_with fail
    refine bodyPost_ret (v := .tuple #[.pointer none, .int .i64 170]) ?_ rfl ⟨rfl, HF.out⟩
    simp [results, Tryz.results43, go_sem]
  by_cases h4 : c.first ≤ 4294967295
  case neg =>
    have h4 := Int.not_le.1 h4
    go_wp2_with fail
    refine bodyPost_ret (v := .tuple #[.pointer none, .int .i64 170]) ?_ rfl ⟨rfl, HF.out⟩
    simp [results, Tryz.results43, go_sem]
  by_cases h5 : 1 ≤ c.window
  case neg =>
    have h5 := Int.not_le.1 h5
    go_wp2_with fail
    refine bodyPost_ret (v := .tuple #[.pointer none, .int .i64 170]) ?_ rfl ⟨rfl, HF.out⟩
    simp [results, Tryz.results43, go_sem]
  by_cases h6 : c.window ≤ 64
  case neg =>
    have h6 := Int.not_le.1 h6
    go_wp2_with fail
    refine bodyPost_ret (v := .tuple #[.pointer none, .int .i64 170]) ?_ rfl ⟨rfl, HF.out⟩
    simp [results, Tryz.results43, go_sem]
  exact (HN.out ⟨isAddrB_of ⟨a1, a2⟩, h1, h2, h3, by omega, h5, h6, h7, h8⟩).elim

set_option maxRecDepth 100000 in
set_option maxHeartbeats 4000000 in
theorem rNew_yes (c : CfgM) (A : Option Addr) (n : Nat) (w : World) (hA : IntsAt w A c.sys.groups) (hgl : c.sys.groups.length ≤ 1099511627776) (hok : NewMay c) :
    Calls Tryz.prog 43 #[.agg (cfgCells c A n)] w fun r w' => ∃ b, r = .returned (.tuple #[.pointer (some ⟨b, 0, none⟩), .int .i64 0]) ∧ Fr (fun _ => False) w w' ∧ RNewCli c w w' b := by
  have hA1 := hA.below ((Below.refl w.heap.size w).alloc (Nat.le_refl _) (.cells (cfgCells c A n) 28))
  have hx := Lib.hid (heap_alloc_new w (.cells (cfgCells c A n) 28))
  have HA := Lib.hid hA1
  have HR := Lib.hid (rRight_any c.pace)
  have HS := Lib.hid (fun w' (hf : Fr (fun _ => False) (w.alloc (.cells (cfgCells c A n) 28)) w') => SysMay_any c.sys A n w' (hA1.fr hf (fun _ _ h => h)))
  have HL := Lib.hid hgl
  obtain ⟨h0, h1, h2, h3, h4, h5, h6, h7, h8⟩ := hok
  obtain ⟨a1, a2⟩ : 1 ≤ c.addr ∧ c.addr ≤ 16777215 := by simpa [isAddrB] using h0
  clear hgl h0
  clear hA hA1
  unfold cfgCells paceV at *
  go_enter Tryz.func43, Tryz.ntmps43
  go_wp2_with fail
  refine (HR.out _).mono ?_
  rintro e w1 ⟨rfl, hf1⟩
  have hx1 := blockMove hx hf1 id
  obtain ⟨n0, n1, n2, n3, n4, n5, n6, n7, n8, n9, n10, n11⟩ := box12 hx1
  go_wp2_with fail
  refine (HS.out _ hf1).mono ?_
  rintro e w2 ⟨rfl, hf2⟩
  have hx2 := blockMove hx1 hf2 id
  have HF := Lib.hid ((((Fr.refl (fun _ => False) w).alloc (.cells #[.int .i64 c.addr, .int .i64 c.inst, .int .i64 c.first, .int .i64 c.window, .int .i64 c.pace.base, .int .i64 c.pace.cap, .int .i64 c.pace.tries, .int .i64 c.sys.stamp, .string c.sys.machine, .int .i64 c.sys.user, .int .i64 c.sys.group, .slice A c.sys.groups.length n] 28)).trans hf1).trans hf2)
  have HA2 := Lib.hid ((HA.out.fr hf1 (fun _ _ h => h)).fr hf2 (fun _ _ h => h))
  have hz2 : w.heap.size < w2.heap.size := lt_of_block hx2.out
  clear hx hx1 hf1 hf2 HS HA n0 n1 n2 n3 n4 n5 n6 n7 n8 n9 n10 n11
  obtain ⟨n0, n1, n2, n3, n4, n5, n6, n7, n8, n9, n10, n11⟩ := box12 hx2
  go_wp2_with (at_builtin; refine wpList_append_ints rfl _ _ rfl A n c.sys.groups rfl rfl HA2.out HL.out ?_)
  all_goals (
    intro v w3 ho hb
    obtain ⟨A3, c3, rfl⟩ := owns_slice ho
    have HO := Lib.hid ho
    have HB := Lib.hid hb
    clear ho hb n0 n1 n2 n3 n4 n5 n6 n7 n8 n9 n10 n11
    have hx3 : Hid (w3.heap[w.heap.size]? = _) := Lib.hid ((HB.out.block _ hz2).trans hx2.out)
    have hz3 : w.heap.size < w3.heap.size := lt_of_block hx3.out
    have hf11 := freeOf hx3.out 11
    have hc11 := cellOf hx3.out 11
    have hx4 := Lib.hid (setOf' hx3.out 11 (.slice A3 c.sys.groups.length c3))
    simp only [List.setIfInBounds_toArray, List.set_cons_succ, List.set_cons_zero] at hx4
    obtain ⟨n0, n1, n2, n3, n4, n5, n6, n7, n8, n9, n10, n11⟩ := box12 hx4
    clear hx2 hx3 HR
    go_wp2_with fail
    refine bodyPost_ret (v := .tuple #[.pointer (some ⟨w3.heap.size + 1, 0, none⟩), .int .i64 0]) ?_ rfl ⟨_, rfl, rNewCli_mk HF.out HA2.out HO.out HB.out hz2⟩
    simp [results, Tryz.results43, go_sem])
end Go.Proofs.YtlcjfafmmoncpaaGreatDoor
