/- Package message: fields: how they are listed, and laid down. -/
import Derived.Test.YtbegjpmifcnieaaGreatDoorCp
import Derived.RegionCalls
import Derived.Deep.RegionWith
import Derived.Maps.AppendAt
import Derived.Laws.EntriesVeiled
namespace Go.Proofs.YtbegjpmifcnieaaGreatDoor
open Go.RowKit
set_option linter.unusedVariables false
set_option linter.unusedSimpArgs false

theorem Tryz.infoField : (Tryz.prog.info? 326).map (fun i => (i.zero, i.size, i.bytes)) = some (some (.agg #[.pointer none, .nilFunc, .nilFunc]), 3, 24) := by kernel_rfl

/-- a field of a number that is a word. -/
def fieldOf (p : Addr) : List Value := [.pointer (some p), .func (.func 213) #[] #[], .func (.func 217) #[] #[]]
def fieldCells (ps : List Addr) : List Value := ps.flatMap fieldOf
theorem fieldCells_length (ps : List Addr) : (fieldCells ps).length = ps.length * 3 := by
  induction ps with
  | nil => rfl
  | cons p ps ih => simp only [fieldCells, List.flatMap_cons, List.length_append] at *; rw [ih]; simp [fieldOf]; omega
theorem fieldCells_succ (ps : List Addr) (k : Nat) (h : k < ps.length) (d : Addr) : fieldCells (ps.take (k + 1)) = fieldCells (ps.take k) ++ fieldOf (ps.getD k d) := by
  unfold fieldCells
  rw [getD_lt ps d h, List.take_succ_eq_append_getElem h, List.flatMap_append]
  simp only [List.flatMap_cons, List.flatMap_nil, List.append_nil]

set_option maxRecDepth 100000 in
set_option maxHeartbeats 4000000 in
theorem words_any (g c : Nat) (ps : List Addr) (w : World) (hn : ps.length ≤ 1000) (hc : ∀ j, j < ps.length → w.cell? ⟨g, j, none⟩ = some (.pointer (some (ps.getD j default)))) :
    Calls Tryz.prog 148 #[.slice (some ⟨g, 0, none⟩) ps.length c] w fun r w' => ∃ v, r = .returned v ∧ Below w.heap.size w w' ∧ w'.ownsRow w.heap.size 326 3 v ps.length (fieldCells ps) := by
  obtain ⟨i0, hi, hz0, hz1, hz2⟩ := info_parts Tryz.infoField
  have HC := Lib.hid hc
  have hgl : ps.length = 0 ∨ g < w.heap.size := by
    rcases Nat.eq_zero_or_pos ps.length with h | h
    · exact .inl h
    · exact .inr (World.block_lt_of_cell? w ⟨g, 0, none⟩ (hc 0 h))
  have HL := Lib.hid hgl
  clear hc hgl
  go_enter Tryz.func148, Tryz.ntmps148
  go_wp2
  go_loopw [8, 3] (fun i v wr => ∃ k : Nat, k ≤ ps.length ∧ i = .int .i64 k ∧ Hid (Below w.heap.size w wr) ∧ Hid (wr.ownsRow w.heap.size 326 3 v k (fieldCells (ps.take k)))) (fun i _ _ => ps.length - (intOf i).toNat)
  case atStart => exact ⟨0, Nat.zero_le _, rfl, Lib.hid (Below.refl _ _), Lib.hid (World.ownsRow_nil _ _ _ _)⟩
  case round =>
    obtain ⟨k, hkk, rfl, HB, HO⟩ := hrel
    by_cases hlt : k < ps.length
    · have hg : g < w.heap.size := by rcases HL.out with h | h <;> omega
      have hcell : wr.cell? ⟨g, k, none⟩ = some (.pointer (some (ps.getD k default))) := (HB.out.cell (p := ⟨g, k, none⟩) hg).trans (HC.out k hlt)
      have hsucc := fieldCells_succ ps k hlt default
      generalize hx : ps.getD k default = x at hcell hsucc
      have HS := Lib.hid hsucc
      clear hx hsucc
      go_wp2_with (at_builtin; refine wpList_append_own_at _ rfl _ _ 256 rfl w.heap.size 326 i0 (.agg #[.pointer none, .nilFunc, .nilFunc]) 3 24 Tryz.underlying256 hi hz0 hz1 hz2 rfl (by decide) _ _ _ rfl (HO.out.alloc _) ⟨wr.heap.size, 0, none⟩ 1 1 (fieldOf x) rfl rfl ?c1 ?c2 ?c3 ?c4 ?c5 ?_)
      case c1 =>
        intro j u hj
        match j, hj with
        | 0, hj => simp [fieldOf] at hj; subst hj; simp [Addr.add]
        | 1, hj => simp [fieldOf] at hj; subst hj; simp [Addr.add]
        | 2, hj => simp [fieldOf] at hj; subst hj; simp [Addr.add]
        | n + 3, hj => simp [fieldOf] at hj
      case c2 => intro u hu; simp [fieldOf] at hu; rcases hu with rfl | rfl | rfl <;> rfl
      case c3 => unfold maxLen; omega
      case c4 => omega
      case c5 => have := HB.out.size; simp; omega
      intro v' w' hown' hgrow _ _
      have HB' := Lib.hid ((HB.out.alloc (by have := HB.out.size; omega) (.cells #[.pointer (some x), .func (.func 213) #[] #[], .func (.func 217) #[] #[]] 326)).grown hgrow (by have := HB.out.size; simp; omega) (fun k e => (HO.out.lt k e).1))
      have HO' := Lib.hid hown'
      clear hown' hgrow
      go_wp2
      exact ⟨⟨k + 1, by omega, by go_num, HB', by rw [HS.out]; exact HO'⟩, by simp [intOf]; omega⟩
    · have hk2 : k = ps.length := by omega
      subst hk2
      have hO := HO.out
      rw [List.take_length] at hO
      have HO' := Lib.hid hO
      clear hO HO
      go_wp2
      go_ret
      exact ⟨_, rfl, HB.out, HO'.out⟩

theorem owns_some {w : World} {base e size n : Nat} {v : Value} {xs : List Value} (h : w.ownsRow base e size v n xs) (hn : 0 < n) : ∃ g c, v = .slice (some ⟨g, 0, none⟩) n c ∧ base ≤ g ∧ g < w.heap.size := by
  rcases h.2 with ⟨_, h0⟩ | ⟨g, cap, cur, rfl, hb, hg, _⟩
  · omega
  · exact ⟨g, cap, rfl, hb, lt_of_block hg⟩

/-- numbers where pointers lead. -/
def NumsAt (w : World) (ps : List Addr) (xs : List Int) : Prop := ps.length = xs.length ∧ ∀ j, j < ps.length → w.cell? (ps.getD j default) = some (.int .i64 (xs.getD j 0))

theorem row_cell {w : World} {base e size n : Nat} {v : Value} {xs : List Value} {g : Nat} (h : w.ownsRow base e size v n xs) (hg : v.ownBlock = some g) (i : Nat) (u : Value) (hu : xs[i]? = some u) : w.cell? ⟨g, i, none⟩ = some u := by
  have := h.cells hg i u hu
  have e : (⟨g, 0, none⟩ : Addr).add i = ⟨g, i, none⟩ := by unfold Addr.add; split <;> simp_all
  rwa [e] at this
theorem fieldCells_at (ps : List Addr) (k : Nat) (h : k < ps.length) (d : Addr) (i : Nat) (hi : i < 3) : (fieldCells ps)[k * 3 + i]? = (fieldOf (ps.getD k d))[i]? := by
  induction ps generalizing k with
  | nil => simp at h
  | cons p ps ih =>
    have e : fieldCells (p :: ps) = fieldOf p ++ fieldCells ps := rfl
    rw [e]
    cases k with
    | zero =>
      rw [Nat.zero_mul, Nat.zero_add, List.getElem?_append_left (by simpa [fieldOf] using hi)]
      rfl
    | succ k =>
      rw [List.getElem?_append_right (by simp [fieldOf]; omega)]
      have := ih k (by simpa using h)
      simp only [fieldOf, List.length_cons, List.length_nil] at *
      rw [show (k + 1) * 3 + i - (0 + 1 + 1 + 1) = k * 3 + i by omega, this]
      rfl

set_option maxRecDepth 100000 in
set_option maxHeartbeats 4000000 in
theorem lay_any {w0 w : World} {F0 : Nat → Prop} {lo b base c g : Nat} {st : WSt} (h : Wi w0 F0 lo b w st) (ps : List Addr) (xs : List Int) (hn : ps.length ≤ 1000)
    (ho : w.ownsRow base 326 3 (.slice (some ⟨g, 0, none⟩) ps.length c) ps.length (fieldCells ps)) (hg : ¬ Out F0 lo g) (hx : NumsAt w ps xs) (hp : ∀ j, j < ps.length → ¬ Out F0 lo (ps.getD j default).block) :
    Calls Tryz.prog 147 #[.pointer (some ⟨b, 0, none⟩), .slice (some ⟨g, 0, none⟩) ps.length c] w fun r w' => r = .returned (.tuple #[]) ∧ Wi w0 F0 lo b w' (st.uints xs) ∧ Fr (Out F0 lo) w w' := by
  have HO := Lib.hid ho
  have HX := Lib.hid hx
  have HP := Lib.hid hp
  have HI := Lib.hid h
  have hlen := Lib.hid hx.1
  have hgs := (ho.lt g rfl).2
  clear ho hx hp h
  go_enter Tryz.func147, Tryz.ntmps147
  go_wp2
  go_loopw [8] (fun i wr => ∃ k : Nat, k ≤ ps.length ∧ i = .int .i64 k ∧ Hid (Wi w0 F0 lo b wr (st.uints (xs.take k))) ∧ Hid (Fr (Out F0 lo) w wr)) (fun i _ => ps.length - (intOf i).toNat)
  case atStart => exact ⟨0, Nat.zero_le _, rfl, HI, Lib.hid (Fr.refl _ _)⟩
  case round =>
    obtain ⟨k, hkk, rfl, HW, HF⟩ := hrel
    by_cases hlt : k < ps.length
    · have hrow : wr.ownsRow base 326 3 (.slice (some ⟨g, 0, none⟩) ps.length c) ps.length (fieldCells ps) :=
        ownsRow_keep HO.out (fun g' e => by injection e with e; subst e; exact HF.out.block _ hgs hg)
      have hf0 := row_cell hrow rfl (k * 3) _ ((fieldCells_at ps k hlt default 0 (by omega)).trans rfl)
      have hf1 := row_cell hrow rfl (k * 3 + 1) _ ((fieldCells_at ps k hlt default 1 (by omega)).trans rfl)
      have hf2 := row_cell hrow rfl (k * 3 + 2) _ ((fieldCells_at ps k hlt default 2 (by omega)).trans rfl)
      have hpx := HX.out.2 k hlt
      have hpn := HP.out k hlt
      have hsx := uints_succ st xs k (by rw [← hlen.out]; exact hlt)
      clear hrow
      generalize ps.getD k default = p at hf0 hpx hpn
      generalize xs.getD k 0 = x at hpx hsx
      have hpl := World.block_lt_of_cell? w p hpx
      have hpx' : wr.cell? p = some (.int .i64 x) := (World.cell?_of_block (HF.out.block p.block hpl hpn)).trans hpx
      have HSX := Lib.hid hsx
      clear hsx hpx
      have hpl' : p.block < wr.heap.size := Nat.lt_of_lt_of_le hpl HF.out.size
      have hpx2 : (wr.alloc (.cells #[.pointer (some p), .func (.func 213) #[] #[], .func (.func 217) #[] #[]] 326)).cell? p = some (.int .i64 x) := by
        rw [World.cell?_alloc_lt _ _ _ hpl']; exact hpx'
      have hW2 : Wi w0 F0 lo b (wr.alloc (.cells #[.pointer (some p), .func (.func 213) #[] #[], .func (.func 217) #[] #[]] 326)).drew (st.uints (xs.take k)) :=
        (HW.out.alloc _).below (Below.refl _ _).drew
      go_wp2_with fail
      go_region_with (go_at_call 213; refine (hW2.uint _).mono ?_; rintro e w2 ⟨rfl, hI, hk⟩)
      all_goals
        have hF2 := Lib.hid (HF.out.trans (((Fr.refl (Out F0 lo) wr).alloc (.cells #[.pointer (some p), .func (.func 213) #[] #[], .func (.func 217) #[] #[]] 326)).drew.trans hk))
        go_wp2
        exact ⟨⟨k + 1, by omega, by go_num, by rw [HSX.out]; exact Lib.hid hI, hF2⟩, by simp [intOf]; omega⟩
    · have hxe : xs.take k = xs := List.take_of_length_le (by have := hlen.out; omega)
      rw [hxe] at HW
      clear hxe
      go_wp2
      go_end0
      exact ⟨rfl, HW.out, HF.out⟩

end Go.Proofs.YtbegjpmifcnieaaGreatDoor

/- Package message: PrintCall. -/
namespace Go.Proofs.YtbegjpmifcnieaaGreatDoor
open Go.RowKit
set_option linter.unusedVariables false
set_option linter.unusedSimpArgs false

structure AuthM where
  flavor : Int
  body : ByteArray
def authV (a : AuthM) : Value := .agg #[.int .i64 a.flavor, .string a.body]
def WSt.auth (st : WSt) (a : AuthM) : WSt := (st.uint a.flavor).opq 400 a.body

theorem WOk.auth {st : WSt} (h : WOk st) (a : AuthM) : WOk (st.auth a) := (h.uint _).opq _ _

theorem layAuth_wr {F : Nat → Prop} {b : Nat} {st : WSt} (a : AuthM) (w : World) (h : Wr w F b st) (hk : WOk st) (hs : a.body.size ≤ 140737488351232) :
    Calls Tryz.prog 150 #[.pointer (some ⟨b, 0, none⟩), authV a] w fun r w' => r = .returned (.tuple #[]) ∧ Fr F w w' ∧ Wr w' (Gw F w w') b (st.auth a) := by
  have hlow := h.low
  have hnb : ¬ F w.heap.size := fun h' => by have := hlow _ h'; omega
  have hw := Wi.start (w1 := w.alloc (.cells #[.int .i64 a.flavor, .string a.body] 43)) (lo := w.heap.size + 1) h hk ((Below.refl _ _).alloc (Nat.le_refl _) _) (by omega) (by simp)
  have hx := Lib.hid (heap_alloc_new w (.cells #[.int .i64 a.flavor, .string a.body] 43))
  have hout : ¬ Out F (w.heap.size + 1) w.heap.size := fun h' => h'.elim hnb (fun h' => by omega)
  clear hk h
  unfold authV WSt.auth
  go_enter Tryz.func150, Tryz.ntmps150
  go_wp2_with (first | (go_at_call 213; refine (hw.uint _).mono ?_; rintro e w2 ⟨rfl, hw, hk⟩; have hx := hidMove hx hk hout; obtain ⟨x0, x1, _, _⟩ := box2 hx) | (go_at_call 214; refine (hw.opq _ _ hs).mono ?_; rintro e w2 ⟨rfl, hw, hk⟩))
  go_end0
  exact ⟨rfl, hw.fr, hw.finish hlow⟩
theorem layAuth_any {w0 w : World} {F0 : Nat → Prop} {lo b : Nat} {st : WSt} (h : Wi w0 F0 lo b w st) (a : AuthM) (hs : a.body.size ≤ 140737488351232) :
    Calls Tryz.prog 150 #[.pointer (some ⟨b, 0, none⟩), authV a] w fun r w' => r = .returned (.tuple #[]) ∧ Wi w0 F0 lo b w' (st.auth a) ∧ Fr (Out F0 lo) w w' :=
  h.step (h.ok.auth a) (fun _ hw => layAuth_wr a w hw h.ok hs)

def fitsB (s : ByteArray) : Bool := decide ((s.size : Int) ≤ 1000) && ((s.size : Int) % 4 == 0)
theorem fits_any (s : ByteArray) (w : World) (hs : s.size ≤ 140737488351232) : Calls Tryz.prog 185 #[.string s] w fun r w' => r = .returned (.bool (fitsB s)) ∧ w = w' := by
  by_cases h : (s.size : Int) ≤ 1000
  · by_cases h2 : ((s.size : Int) % 4 == 0) = true
    · rw [show fitsB s = true by simp only [fitsB, h, h2]; rfl]
      go_enter Tryz.func185, Tryz.ntmps185
      go_wp2
      go_ret
      exact ⟨rfl, rfl⟩
    · rw [Bool.not_eq_true] at h2
      rw [show fitsB s = false by simp only [fitsB, h, h2]; rfl]
      go_enter Tryz.func185, Tryz.ntmps185
      go_wp2
      go_ret
      exact ⟨rfl, rfl⟩
  · rw [show fitsB s = false by simp only [fitsB, h]; rfl]
    go_enter Tryz.func185, Tryz.ntmps185
    go_wp2
    go_ret
    exact ⟨rfl, rfl⟩

def doneM (st : WSt) (ok : Bool) : ByteArray × Int := if st.e = 0 ∧ ok = true then (st.out, 0) else (ByteArray.empty, 120)
theorem mdone_any {w0 w : World} {F0 : Nat → Prop} {lo b : Nat} {st : WSt} (h : Wi w0 F0 lo b w st) (ok : Bool) (hg : ErrT w) :
    Calls Tryz.prog 152 #[.pointer (some ⟨b, 0, none⟩), .bool ok] w fun r w' => r = .returned (.tuple #[.string (doneM st ok).1, .int .i64 (doneM st ok).2]) ∧ Fr (fun _ => False) w w' := by
  have hD := Lib.hid (h.done hg)
  by_cases he : st.e = 0
  · have hb : st.body = st.out := if_pos he
    cases ok with
    | true =>
      rw [show doneM st true = (st.out, 0) by simp [doneM, he], ← hb]
      have he' : (st.e != 0) = false := by rw [he]; rfl
      clear he hb
      go_enter Tryz.func152, Tryz.ntmps152
      go_wp2_with (go_at_call 146; refine hD.out.mono ?_; rintro e w1 ⟨rfl, hf⟩)
      go_ret2
      exact ⟨rfl, hf⟩
    | false =>
      rw [show doneM st false = (ByteArray.empty, 120) by simp [doneM]]
      have he' : (st.e != 0) = false := by rw [he]; rfl
      clear he hb
      go_enter Tryz.func152, Tryz.ntmps152
      go_wp2_with (go_at_call 146; refine hD.out.mono ?_; rintro e w1 ⟨rfl, hf⟩)
      go_ret2
      exact ⟨rfl, hf⟩
  · rw [show doneM st ok = (ByteArray.empty, 120) by simp [doneM, he]]
    have he' : (st.e != 0) = true := by rw [bne_iff_ne]; exact he
    clear he
    go_enter Tryz.func152, Tryz.ntmps152
    go_wp2_with (go_at_call 146; refine hD.out.mono ?_; rintro e w1 ⟨rfl, hf⟩)
    go_ret2
    exact ⟨rfl, hf⟩

theorem box10 {w : World} {b t : Nat} {v0 v1 v2 v3 v4 v5 v6 v7 v8 v9 : Value} (h : Hid (w.heap[b]? = some (.cells #[v0, v1, v2, v3, v4, v5, v6, v7, v8, v9] t (0, 0)))) :
    w.cell? ⟨b, 0, none⟩ = some v0 ∧ w.cell? ⟨b, 1, none⟩ = some v1 ∧ w.cell? ⟨b, 2, none⟩ = some v2 ∧ w.cell? ⟨b, 3, none⟩ = some v3 ∧ w.cell? ⟨b, 4, none⟩ = some v4 ∧
      w.cell? ⟨b, 5, none⟩ = some v5 ∧ w.cell? ⟨b, 6, none⟩ = some v6 ∧ w.cell? ⟨b, 7, none⟩ = some v7 ∧ w.cell? ⟨b, 8, none⟩ = some v8 ∧ w.cell? ⟨b, 9, none⟩ = some v9 :=
  ⟨cellOf h.out 0, cellOf h.out 1, cellOf h.out 2, cellOf h.out 3, cellOf h.out 4, cellOf h.out 5, cellOf h.out 6, cellOf h.out 7, cellOf h.out 8, cellOf h.out 9⟩

structure CallM where
  xid : Int
  rpc : Int
  prog : Int
  vers : Int
  proc : Int
  cred : AuthM
  verf : AuthM
  args : ByteArray
def callCells (c : CallM) : Array Value := #[.int .i64 c.xid, .int .i64 c.rpc, .int .i64 c.prog, .int .i64 c.vers, .int .i64 c.proc, .int .i64 c.cred.flavor, .string c.cred.body, .int .i64 c.verf.flavor, .string c.verf.body, .string c.args]

def WSt.call (st : WSt) (c : CallM) : WSt := (((st.uints [c.xid, 0, c.rpc, c.prog, c.vers, c.proc]).auth c.cred).auth c.verf).raw c.args
def printCallM (c : CallM) : ByteArray × Int := doneM ((newW 4096).call c) ((c.rpc == 2) && fitsB c.args)

set_option maxRecDepth 100000 in
set_option maxHeartbeats 4000000 in
theorem PrintCall_any (c : CallM) (w : World) (hg : ErrT w) (h1 : c.cred.body.size ≤ 140737488351232) (h2 : c.verf.body.size ≤ 140737488351232) (h3 : c.args.size ≤ 140737488351232) :
    Calls Tryz.prog 127 #[.agg (callCells c)] w fun r w' => r = .returned (.tuple #[.string (printCallM c).1, .int .i64 (printCallM c).2]) ∧ Fr (fun _ => False) w w' := by
  have HG := Lib.hid hg
  have hxa := Lib.hid (heap_alloc_new w (.cells (callCells c) 85))
  have hgz := hg.lt
  clear hg
  by_cases hr : (c.rpc == 2) = true
  · rw [show printCallM c = doneM ((newW 4096).call c) (fitsB c.args) by simp [printCallM, hr]]
    unfold callCells at hxa ⊢
    go_enter Tryz.func127, Tryz.ntmps127
    go_wp2_with fail
    refine (WNew_any 4096 _ (by decide)).mono ?_
    rintro e w1 ⟨rfl, hf1, hw1⟩
    have e4 : max (4096 : Int) 0 = 4096 := by decide
    rw [e4] at hw1
    clear e4
    simp only [World.size_alloc] at hw1
    have hz1 : w.heap.size + 1 < w1.heap.size := hw1.low _ hw1.self
    have hxa := hidMove hxa hf1 id
    obtain ⟨n0, n1, n2, n3, n4, n5, n6, n7, n8, n9⟩ := box10 hxa
    have hps : Hid (∀ j, j < ([⟨w.heap.size, 0, none⟩, ⟨w1.heap.size, 0, none⟩, ⟨w.heap.size, 1, none⟩, ⟨w.heap.size, 2, none⟩, ⟨w.heap.size, 3, none⟩, ⟨w.heap.size, 4, none⟩] : List Addr).length →
        ((w1.alloc (.cells #[.int .i64 0] 3)).alloc (.cells #[.pointer (some ⟨w.heap.size, 0, none⟩), .pointer (some ⟨w1.heap.size, 0, none⟩), .pointer (some ⟨w.heap.size, 1, none⟩), .pointer (some ⟨w.heap.size, 2, none⟩), .pointer (some ⟨w.heap.size, 3, none⟩), .pointer (some ⟨w.heap.size, 4, none⟩)] 258)).cell? ⟨w1.heap.size + 1, j, none⟩
          = some (.pointer (some (([⟨w.heap.size, 0, none⟩, ⟨w1.heap.size, 0, none⟩, ⟨w.heap.size, 1, none⟩, ⟨w.heap.size, 2, none⟩, ⟨w.heap.size, 3, none⟩, ⟨w.heap.size, 4, none⟩] : List Addr).getD j default)))) := Lib.hid (by
      intro j hj
      match j, hj with
      | 0, _ => simp
      | 1, _ => simp
      | 2, _ => simp
      | 3, _ => simp
      | 4, _ => simp
      | 5, _ => simp)
    have hbw : Below w1.heap.size w1 ((w1.alloc (.cells #[.int .i64 0] 3)).alloc (.cells #[.pointer (some ⟨w.heap.size, 0, none⟩), .pointer (some ⟨w1.heap.size, 0, none⟩), .pointer (some ⟨w.heap.size, 1, none⟩), .pointer (some ⟨w.heap.size, 2, none⟩), .pointer (some ⟨w.heap.size, 3, none⟩), .pointer (some ⟨w.heap.size, 4, none⟩)] 258)) :=
      ((Below.refl _ _).alloc (Nat.le_refl _) _).alloc (by simp) _
    have hkind := Lib.hid (heap_old (o := .cells #[.pointer (some ⟨w.heap.size, 0, none⟩), .pointer (some ⟨w1.heap.size, 0, none⟩), .pointer (some ⟨w.heap.size, 1, none⟩), .pointer (some ⟨w.heap.size, 2, none⟩), .pointer (some ⟨w.heap.size, 3, none⟩), .pointer (some ⟨w.heap.size, 4, none⟩)] 258) (heap_alloc_new w1 (.cells #[.int .i64 0] 3)))
    have HBW := Lib.hid hbw
    clear hbw
    go_wp2_with (go_at_call 185; refine (fits_any _ _ h3).mono ?_; rintro e w' ⟨rfl, rfl⟩)
    refine (words_any (w1.heap.size + 1) 6 [⟨w.heap.size, 0, none⟩, ⟨w1.heap.size, 0, none⟩, ⟨w.heap.size, 1, none⟩, ⟨w.heap.size, 2, none⟩, ⟨w.heap.size, 3, none⟩, ⟨w.heap.size, 4, none⟩] _ (by simp) hps.out).mono ?_
    rintro e w4 ⟨v, rfl, hb4, ho4⟩
    obtain ⟨g, cp, rfl, hg1, hg2⟩ := owns_some ho4 (by simp)
    have hkind := hidMove hkind (Fr.ofBelow (S := fun _ => False) hb4) id
    have hb14 : Below w1.heap.size w1 w4 := HBW.out.trans (hb4.mono HBW.out.size)
    have hxa := hidMove hxa (Fr.ofBelow (S := fun _ => False) hb14) id
    have hz4 : w1.heap.size + 2 ≤ w4.heap.size := by have := hb4.size; simp at this; omega
    have hg3 : w1.heap.size + 2 ≤ g := by simpa using hg1
    have hI := Wi.start (lo := w4.heap.size) hw1 (newW_ok (m := 4096) (by decide) (by decide)) hb14 (by omega) (Nat.le_refl _)
    have hox : ¬ Out (fun k => k = w.heap.size + 1) w4.heap.size w.heap.size := fun h => by rcases h with h | h <;> omega
    have hok : ¬ Out (fun k => k = w.heap.size + 1) w4.heap.size w1.heap.size := fun h => by rcases h with h | h <;> omega
    have hog : ¬ Out (fun k => k = w.heap.size + 1) w4.heap.size g := fun h => by rcases h with h | h <;> omega
    obtain ⟨n0, n1, n2, n3, n4, n5, n6, n7, n8, n9⟩ := box10 hxa
    have hk0 := cellOf hkind.out 0
    have hnums : NumsAt w4 [⟨w.heap.size, 0, none⟩, ⟨w1.heap.size, 0, none⟩, ⟨w.heap.size, 1, none⟩, ⟨w.heap.size, 2, none⟩, ⟨w.heap.size, 3, none⟩, ⟨w.heap.size, 4, none⟩] [c.xid, 0, c.rpc, c.prog, c.vers, c.proc] := by
      refine ⟨rfl, fun j hj => ?_⟩
      match j, hj with
      | 0, _ => exact n0
      | 1, _ => exact hk0
      | 2, _ => exact n1
      | 3, _ => exact n2
      | 4, _ => exact n3
      | 5, _ => exact n4
    have hpout : ∀ j, j < ([⟨w.heap.size, 0, none⟩, ⟨w1.heap.size, 0, none⟩, ⟨w.heap.size, 1, none⟩, ⟨w.heap.size, 2, none⟩, ⟨w.heap.size, 3, none⟩, ⟨w.heap.size, 4, none⟩] : List Addr).length → ¬ Out (fun k => k = w.heap.size + 1) w4.heap.size (([⟨w.heap.size, 0, none⟩, ⟨w1.heap.size, 0, none⟩, ⟨w.heap.size, 1, none⟩, ⟨w.heap.size, 2, none⟩, ⟨w.heap.size, 3, none⟩, ⟨w.heap.size, 4, none⟩] : List Addr).getD j default).block := by
      intro j hj
      match j, hj with
      | 0, _ => exact hox
      | 1, _ => exact hok
      | 2, _ => exact hox
      | 3, _ => exact hox
      | 4, _ => exact hox
      | 5, _ => exact hox
    have HO := Lib.hid ho4
    have HN := Lib.hid hnums
    have HPO := Lib.hid hpout
    clear ho4 hnums hpout n0 n1 n2 n3 n4 n5 n6 n7 n8 n9 hk0
    go_wp2_with fail
    refine (lay_any hI _ _ (by simp) HO.out hog HN.out HPO.out).mono ?_
    rintro e w5 ⟨rfl, hI, hk5⟩
    have hxa := hidMove hxa hk5 hox
    obtain ⟨n0, n1, n2, n3, n4, n5, n6, n7, n8, n9⟩ := box10 hxa
    go_wp2_with fail
    refine (layAuth_any hI c.cred h1).mono ?_
    rintro e w6 ⟨rfl, hI, hk6⟩
    have hxa := hidMove hxa hk6 hox
    obtain ⟨n0, n1, n2, n3, n4, n5, n6, n7, n8, n9⟩ := box10 hxa
    go_wp2_with fail
    refine (layAuth_any hI c.verf h2).mono ?_
    rintro e w7 ⟨rfl, hI, hk7⟩
    have hxa := hidMove hxa hk7 hox
    obtain ⟨n0, n1, n2, n3, n4, n5, n6, n7, n8, n9⟩ := box10 hxa
    go_wp2_with fail
    refine (hI.raw c.args h3).mono ?_
    rintro e w8 ⟨rfl, hI, hk8⟩
    have hfw : Fr (fun _ => False) w w8 := (((Fr.refl _ _).alloc _).then hf1 (fun _ _ h => h)).then hI.fr (fun i hi e => by omega)
    have HG8 := Lib.hid (HG.out.fr hfw id)
    go_wp2_with fail
    refine (mdone_any hI _ HG8.out).mono ?_
    rintro e w9 ⟨rfl, hf9⟩
    go_wp2_with fail
    go_ret2
    exact ⟨rfl, hfw.then hf9 (fun _ _ h => h)⟩
  · rw [Bool.not_eq_true] at hr
    rw [show printCallM c = doneM ((newW 4096).call c) false by simp [printCallM, hr]]
    unfold callCells at hxa ⊢
    go_enter Tryz.func127, Tryz.ntmps127
    go_wp2_with fail
    refine (WNew_any 4096 _ (by decide)).mono ?_
    rintro e w1 ⟨rfl, hf1, hw1⟩
    have e4 : max (4096 : Int) 0 = 4096 := by decide
    rw [e4] at hw1
    clear e4
    simp only [World.size_alloc] at hw1
    have hz1 : w.heap.size + 1 < w1.heap.size := hw1.low _ hw1.self
    have hxa := hidMove hxa hf1 id
    obtain ⟨n0, n1, n2, n3, n4, n5, n6, n7, n8, n9⟩ := box10 hxa
    have hps : Hid (∀ j, j < ([⟨w.heap.size, 0, none⟩, ⟨w1.heap.size, 0, none⟩, ⟨w.heap.size, 1, none⟩, ⟨w.heap.size, 2, none⟩, ⟨w.heap.size, 3, none⟩, ⟨w.heap.size, 4, none⟩] : List Addr).length →
        ((w1.alloc (.cells #[.int .i64 0] 3)).alloc (.cells #[.pointer (some ⟨w.heap.size, 0, none⟩), .pointer (some ⟨w1.heap.size, 0, none⟩), .pointer (some ⟨w.heap.size, 1, none⟩), .pointer (some ⟨w.heap.size, 2, none⟩), .pointer (some ⟨w.heap.size, 3, none⟩), .pointer (some ⟨w.heap.size, 4, none⟩)] 258)).cell? ⟨w1.heap.size + 1, j, none⟩
          = some (.pointer (some (([⟨w.heap.size, 0, none⟩, ⟨w1.heap.size, 0, none⟩, ⟨w.heap.size, 1, none⟩, ⟨w.heap.size, 2, none⟩, ⟨w.heap.size, 3, none⟩, ⟨w.heap.size, 4, none⟩] : List Addr).getD j default)))) := Lib.hid (by
      intro j hj
      match j, hj with
      | 0, _ => simp
      | 1, _ => simp
      | 2, _ => simp
      | 3, _ => simp
      | 4, _ => simp
      | 5, _ => simp)
    have hbw : Below w1.heap.size w1 ((w1.alloc (.cells #[.int .i64 0] 3)).alloc (.cells #[.pointer (some ⟨w.heap.size, 0, none⟩), .pointer (some ⟨w1.heap.size, 0, none⟩), .pointer (some ⟨w.heap.size, 1, none⟩), .pointer (some ⟨w.heap.size, 2, none⟩), .pointer (some ⟨w.heap.size, 3, none⟩), .pointer (some ⟨w.heap.size, 4, none⟩)] 258)) :=
      ((Below.refl _ _).alloc (Nat.le_refl _) _).alloc (by simp) _
    have hkind := Lib.hid (heap_old (o := .cells #[.pointer (some ⟨w.heap.size, 0, none⟩), .pointer (some ⟨w1.heap.size, 0, none⟩), .pointer (some ⟨w.heap.size, 1, none⟩), .pointer (some ⟨w.heap.size, 2, none⟩), .pointer (some ⟨w.heap.size, 3, none⟩), .pointer (some ⟨w.heap.size, 4, none⟩)] 258) (heap_alloc_new w1 (.cells #[.int .i64 0] 3)))
    have HBW := Lib.hid hbw
    clear hbw
    go_wp2_with fail
    refine (words_any (w1.heap.size + 1) 6 [⟨w.heap.size, 0, none⟩, ⟨w1.heap.size, 0, none⟩, ⟨w.heap.size, 1, none⟩, ⟨w.heap.size, 2, none⟩, ⟨w.heap.size, 3, none⟩, ⟨w.heap.size, 4, none⟩] _ (by simp) hps.out).mono ?_
    rintro e w4 ⟨v, rfl, hb4, ho4⟩
    obtain ⟨g, cp, rfl, hg1, hg2⟩ := owns_some ho4 (by simp)
    have hkind := hidMove hkind (Fr.ofBelow (S := fun _ => False) hb4) id
    have hb14 : Below w1.heap.size w1 w4 := HBW.out.trans (hb4.mono HBW.out.size)
    have hxa := hidMove hxa (Fr.ofBelow (S := fun _ => False) hb14) id
    have hz4 : w1.heap.size + 2 ≤ w4.heap.size := by have := hb4.size; simp at this; omega
    have hg3 : w1.heap.size + 2 ≤ g := by simpa using hg1
    have hI := Wi.start (lo := w4.heap.size) hw1 (newW_ok (m := 4096) (by decide) (by decide)) hb14 (by omega) (Nat.le_refl _)
    have hox : ¬ Out (fun k => k = w.heap.size + 1) w4.heap.size w.heap.size := fun h => by rcases h with h | h <;> omega
    have hok : ¬ Out (fun k => k = w.heap.size + 1) w4.heap.size w1.heap.size := fun h => by rcases h with h | h <;> omega
    have hog : ¬ Out (fun k => k = w.heap.size + 1) w4.heap.size g := fun h => by rcases h with h | h <;> omega
    obtain ⟨n0, n1, n2, n3, n4, n5, n6, n7, n8, n9⟩ := box10 hxa
    have hk0 := cellOf hkind.out 0
    have hnums : NumsAt w4 [⟨w.heap.size, 0, none⟩, ⟨w1.heap.size, 0, none⟩, ⟨w.heap.size, 1, none⟩, ⟨w.heap.size, 2, none⟩, ⟨w.heap.size, 3, none⟩, ⟨w.heap.size, 4, none⟩] [c.xid, 0, c.rpc, c.prog, c.vers, c.proc] := by
      refine ⟨rfl, fun j hj => ?_⟩
      match j, hj with
      | 0, _ => exact n0
      | 1, _ => exact hk0
      | 2, _ => exact n1
      | 3, _ => exact n2
      | 4, _ => exact n3
      | 5, _ => exact n4
    have hpout : ∀ j, j < ([⟨w.heap.size, 0, none⟩, ⟨w1.heap.size, 0, none⟩, ⟨w.heap.size, 1, none⟩, ⟨w.heap.size, 2, none⟩, ⟨w.heap.size, 3, none⟩, ⟨w.heap.size, 4, none⟩] : List Addr).length → ¬ Out (fun k => k = w.heap.size + 1) w4.heap.size (([⟨w.heap.size, 0, none⟩, ⟨w1.heap.size, 0, none⟩, ⟨w.heap.size, 1, none⟩, ⟨w.heap.size, 2, none⟩, ⟨w.heap.size, 3, none⟩, ⟨w.heap.size, 4, none⟩] : List Addr).getD j default).block := by
      intro j hj
      match j, hj with
      | 0, _ => exact hox
      | 1, _ => exact hok
      | 2, _ => exact hox
      | 3, _ => exact hox
      | 4, _ => exact hox
      | 5, _ => exact hox
    have HO := Lib.hid ho4
    have HN := Lib.hid hnums
    have HPO := Lib.hid hpout
    clear ho4 hnums hpout n0 n1 n2 n3 n4 n5 n6 n7 n8 n9 hk0
    go_wp2_with fail
    refine (lay_any hI _ _ (by simp) HO.out hog HN.out HPO.out).mono ?_
    rintro e w5 ⟨rfl, hI, hk5⟩
    have hxa := hidMove hxa hk5 hox
    obtain ⟨n0, n1, n2, n3, n4, n5, n6, n7, n8, n9⟩ := box10 hxa
    go_wp2_with fail
    refine (layAuth_any hI c.cred h1).mono ?_
    rintro e w6 ⟨rfl, hI, hk6⟩
    have hxa := hidMove hxa hk6 hox
    obtain ⟨n0, n1, n2, n3, n4, n5, n6, n7, n8, n9⟩ := box10 hxa
    go_wp2_with fail
    refine (layAuth_any hI c.verf h2).mono ?_
    rintro e w7 ⟨rfl, hI, hk7⟩
    have hxa := hidMove hxa hk7 hox
    obtain ⟨n0, n1, n2, n3, n4, n5, n6, n7, n8, n9⟩ := box10 hxa
    go_wp2_with fail
    refine (hI.raw c.args h3).mono ?_
    rintro e w8 ⟨rfl, hI, hk8⟩
    have hfw : Fr (fun _ => False) w w8 := (((Fr.refl _ _).alloc _).then hf1 (fun _ _ h => h)).then hI.fr (fun i hi e => by omega)
    have HG8 := Lib.hid (HG.out.fr hfw id)
    go_wp2_with fail
    refine (mdone_any hI _ HG8.out).mono ?_
    rintro e w9 ⟨rfl, hf9⟩
    go_wp2_with fail
    go_ret2
    exact ⟨rfl, hfw.then hf9 (fun _ _ h => h)⟩

end Go.Proofs.YtbegjpmifcnieaaGreatDoor
