/- Package message: fields: how they are listed, and laid down. -/
import Derived.Test.YtlcjfafmmoncpaaGreatDoorCr
import Derived.RegionCalls
import Derived.Deep.RegionWith
import Derived.Maps.AppendAt
import Derived.Laws.EntriesVeiled
namespace Go.Proofs.YtlcjfafmmoncpaaGreatDoor
open Go.RowKit
set_option linter.unusedVariables false
set_option linter.unusedSimpArgs false

theorem Tryz.infoField : (Tryz.prog.info? 212).map (fun i => (i.zero, i.size, i.bytes)) = some (some (.agg #[.pointer none, .nilFunc, .nilFunc]), 3, 24) := by kernel_rfl

/-- a field of a number that is a word. -/
def fieldOf (p : Addr) : List Value := [.pointer (some p), .func (.func 52) #[] #[], .func (.func 49) #[] #[]]
def fieldCells (ps : List Addr) : List Value := ps.flatMap fieldOf
theorem fieldCells_length (ps : List Addr) : (fieldCells ps).length = ps.length * 3 := by
  induction ps with
  | nil => rfl
  | cons p ps ih => simp only [fieldCells, List.flatMap_cons, List.length_append] at *; rw [ih]; simp [fieldOf]; omega
theorem fieldCells_succ (ps : List Addr) (k : Nat) (h : k < ps.length) (d : Addr) : fieldCells (ps.take (k + 1)) = fieldCells (ps.take k) ++ fieldOf (ps.getD k d) := by
  unfold fieldCells
  rw [getD_lt ps d h, List.take_succ_eq_append_getElem h, List.flatMap_append]
  simp only [List.flatMap_cons, List.flatMap_nil, List.append_nil]

set_option maxRecDepth 100000 in
set_option maxHeartbeats 4000000 in
theorem words_any (g c : Nat) (ps : List Addr) (w : World) (hn : ps.length ≤ 1000) (hc : ∀ j, j < ps.length → w.cell? ⟨g, j, none⟩ = some (.pointer (some (ps.getD j default)))) :
    Calls Tryz.prog 147 #[.slice (some ⟨g, 0, none⟩) ps.length c] w fun r w' => ∃ v, r = .returned v ∧ Below w.heap.size w w' ∧ w'.ownsRow w.heap.size 212 3 v ps.length (fieldCells ps) := by
  obtain ⟨i0, hi, hz0, hz1, hz2⟩ := info_parts Tryz.infoField
  have HC := Lib.hid hc
  have hgl : ps.length = 0 ∨ g < w.heap.size := by
    rcases Nat.eq_zero_or_pos ps.length with h | h
    · exact .inl h
    · exact .inr (World.block_lt_of_cell? w ⟨g, 0, none⟩ (hc 0 h))
  have HL := Lib.hid hgl
  clear hc hgl
  go_enter Tryz.func147, Tryz.ntmps147
  go_wp2
  go_loopw [8, 3] (fun i v wr => ∃ k : Nat, k ≤ ps.length ∧ i = .int .i64 k ∧ Hid (Below w.heap.size w wr) ∧ Hid (wr.ownsRow w.heap.size 212 3 v k (fieldCells (ps.take k)))) (fun i _ _ => ps.length - (intOf i).toNat)
  case atStart => exact ⟨0, Nat.zero_le _, rfl, Lib.hid (Below.refl _ _), Lib.hid (World.ownsRow_nil _ _ _ _)⟩
  case round =>
    obtain ⟨k, hkk, rfl, HB, HO⟩ := hrel
    by_cases hlt : k < ps.length
    · have hg : g < w.heap.size := by rcases HL.out with h | h <;> omega
      have hcell : wr.cell? ⟨g, k, none⟩ = some (.pointer (some (ps.getD k default))) := (HB.out.cell (p := ⟨g, k, none⟩) hg).trans (HC.out k hlt)
      have hsucc := fieldCells_succ ps k hlt default
      generalize hx : ps.getD k default = x at hcell hsucc
      have HS := Lib.hid hsucc
      clear hx hsucc
      go_wp2_with (at_builtin; refine wpList_append_own_at _ rfl _ _ 182 rfl w.heap.size 212 i0 (.agg #[.pointer none, .nilFunc, .nilFunc]) 3 24 Tryz.underlying182 hi hz0 hz1 hz2 rfl (by decide) _ _ _ rfl (HO.out.alloc _) ⟨wr.heap.size, 0, none⟩ 1 1 (fieldOf x) rfl rfl ?c1 ?c2 ?c3 ?c4 ?c5 ?_)
      case c1 =>
        intro j u hj
        match j, hj with
        | 0, hj => simp [fieldOf] at hj; subst hj; simp [Addr.add]
        | 1, hj => simp [fieldOf] at hj; subst hj; simp [Addr.add]
        | 2, hj => simp [fieldOf] at hj; subst hj; simp [Addr.add]
        | n + 3, hj => simp [fieldOf] at hj
      case c2 => intro u hu; simp [fieldOf] at hu; rcases hu with rfl | rfl | rfl <;> rfl
      case c3 => unfold maxLen; omega
      case c4 => omega
      case c5 => have := HB.out.size; simp; omega
      intro v' w' hown' hgrow _ _
      have HB' := Lib.hid ((HB.out.alloc (by have := HB.out.size; omega) (.cells #[.pointer (some x), .func (.func 52) #[] #[], .func (.func 49) #[] #[]] 212)).grown hgrow (by have := HB.out.size; simp; omega) (fun k e => (HO.out.lt k e).1))
      have HO' := Lib.hid hown'
      clear hown' hgrow
      go_wp2
      exact ⟨⟨k + 1, by omega, by go_num, HB', by rw [HS.out]; exact HO'⟩, by simp [intOf]; omega⟩
    · have hk2 : k = ps.length := by omega
      subst hk2
      have hO := HO.out
      rw [List.take_length] at hO
      have HO' := Lib.hid hO
      clear hO HO
      go_wp2
      go_ret
      exact ⟨_, rfl, HB.out, HO'.out⟩

theorem owns_some {w : World} {base e size n : Nat} {v : Value} {xs : List Value} (h : w.ownsRow base e size v n xs) (hn : 0 < n) : ∃ g c, v = .slice (some ⟨g, 0, none⟩) n c ∧ base ≤ g ∧ g < w.heap.size := by
  rcases h.2 with ⟨_, h0⟩ | ⟨g, cap, cur, rfl, hb, hg, _⟩
  · omega
  · exact ⟨g, cap, rfl, hb, lt_of_block hg⟩

/-- numbers where pointers lead. -/
def NumsAt (w : World) (ps : List Addr) (xs : List Int) : Prop := ps.length = xs.length ∧ ∀ j, j < ps.length → w.cell? (ps.getD j default) = some (.int .i64 (xs.getD j 0))

theorem row_cell {w : World} {base e size n : Nat} {v : Value} {xs : List Value} {g : Nat} (h : w.ownsRow base e size v n xs) (hg : v.ownBlock = some g) (i : Nat) (u : Value) (hu : xs[i]? = some u) : w.cell? ⟨g, i, none⟩ = some u := by
  have := h.cells hg i u hu
  have e : (⟨g, 0, none⟩ : Addr).add i = ⟨g, i, none⟩ := by unfold Addr.add; split <;> simp_all
  rwa [e] at this
theorem fieldCells_at (ps : List Addr) (k : Nat) (h : k < ps.length) (d : Addr) (i : Nat) (hi : i < 3) : (fieldCells ps)[k * 3 + i]? = (fieldOf (ps.getD k d))[i]? := by
  induction ps generalizing k with
  | nil => simp at h
  | cons p ps ih =>
    have e : fieldCells (p :: ps) = fieldOf p ++ fieldCells ps := rfl
    rw [e]
    cases k with
    | zero =>
      rw [Nat.zero_mul, Nat.zero_add, List.getElem?_append_left (by simpa [fieldOf] using hi)]
      rfl
    | succ k =>
      rw [List.getElem?_append_right (by simp [fieldOf]; omega)]
      have := ih k (by simpa using h)
      simp only [fieldOf, List.length_cons, List.length_nil] at *
      rw [show (k + 1) * 3 + i - (0 + 1 + 1 + 1) = k * 3 + i by omega, this]
      rfl

set_option maxRecDepth 100000 in
set_option maxHeartbeats 4000000 in
theorem lay_any {w0 w : World} {F0 : Nat → Prop} {lo b base c g : Nat} {st : WSt} (h : Wi w0 F0 lo b w st) (ps : List Addr) (xs : List Int) (hn : ps.length ≤ 1000)
    (ho : w.ownsRow base 212 3 (.slice (some ⟨g, 0, none⟩) ps.length c) ps.length (fieldCells ps)) (hg : ¬ Out F0 lo g) (hx : NumsAt w ps xs) (hp : ∀ j, j < ps.length → ¬ Out F0 lo (ps.getD j default).block) :
    Calls Tryz.prog 146 #[.pointer (some ⟨b, 0, none⟩), .slice (some ⟨g, 0, none⟩) ps.length c] w fun r w' => r = .returned (.tuple #[]) ∧ Wi w0 F0 lo b w' (st.uints xs) ∧ Fr (Out F0 lo) w w' := by
  have HO := Lib.hid ho
  have HX := Lib.hid hx
  have HP := Lib.hid hp
  have HI := Lib.hid h
  have hlen := Lib.hid hx.1
  have hgs := (ho.lt g rfl).2
  clear ho hx hp h
  go_enter Tryz.func146, Tryz.ntmps146
  go_wp2
  go_loopw [8] (fun i wr => ∃ k : Nat, k ≤ ps.length ∧ i = .int .i64 k ∧ Hid (Wi w0 F0 lo b wr (st.uints (xs.take k))) ∧ Hid (Fr (Out F0 lo) w wr)) (fun i _ => ps.length - (intOf i).toNat)
  case atStart => exact ⟨0, Nat.zero_le _, rfl, HI, Lib.hid (Fr.refl _ _)⟩
  case round =>
    obtain ⟨k, hkk, rfl, HW, HF⟩ := hrel
    by_cases hlt : k < ps.length
    · have hrow : wr.ownsRow base 212 3 (.slice (some ⟨g, 0, none⟩) ps.length c) ps.length (fieldCells ps) :=
        ownsRow_keep HO.out (fun g' e => by injection e with e; subst e; exact HF.out.block _ hgs hg)
      have hf0 := row_cell hrow rfl (k * 3) _ ((fieldCells_at ps k hlt default 0 (by omega)).trans rfl)
      have hf1 := row_cell hrow rfl (k * 3 + 1) _ ((fieldCells_at ps k hlt default 1 (by omega)).trans rfl)
      have hf2 := row_cell hrow rfl (k * 3 + 2) _ ((fieldCells_at ps k hlt default 2 (by omega)).trans rfl)
      have hpx := HX.out.2 k hlt
      have hpn := HP.out k hlt
      have hsx := uints_succ st xs k (by rw [← hlen.out]; exact hlt)
      clear hrow
      generalize ps.getD k default = p at hf0 hpx hpn
      generalize xs.getD k 0 = x at hpx hsx
      have hpl := World.block_lt_of_cell? w p hpx
      have hpx' : wr.cell? p = some (.int .i64 x) := (World.cell?_of_block (HF.out.block p.block hpl hpn)).trans hpx
      have HSX := Lib.hid hsx
      clear hsx hpx
      have hpl' : p.block < wr.heap.size := Nat.lt_of_lt_of_le hpl HF.out.size
      have hpx2 : (wr.alloc (.cells #[.pointer (some p), .func (.func 52) #[] #[], .func (.func 49) #[] #[]] 212)).cell? p = some (.int .i64 x) := by
        rw [World.cell?_alloc_lt _ _ _ hpl']; exact hpx'
      have hW2 : Wi w0 F0 lo b (wr.alloc (.cells #[.pointer (some p), .func (.func 52) #[] #[], .func (.func 49) #[] #[]] 212)).drew (st.uints (xs.take k)) :=
        (HW.out.alloc _).below (Below.refl _ _).drew
      go_wp2_with fail
      go_region_with (go_at_call 52; refine (hW2.uint _).mono ?_; rintro e w2 ⟨rfl, hI, hk⟩)
      all_goals
        have hF2 := Lib.hid (HF.out.trans (((Fr.refl (Out F0 lo) wr).alloc (.cells #[.pointer (some p), .func (.func 52) #[] #[], .func (.func 49) #[] #[]] 212)).drew.trans hk))
        go_wp2
        exact ⟨⟨k + 1, by omega, by go_num, by rw [HSX.out]; exact Lib.hid hI, hF2⟩, by simp [intOf]; omega⟩
    · have hxe : xs.take k = xs := List.take_of_length_le (by have := hlen.out; omega)
      rw [hxe] at HW
      clear hxe
      go_wp2
      go_end0
      exact ⟨rfl, HW.out, HF.out⟩

end Go.Proofs.YtlcjfafmmoncpaaGreatDoor
