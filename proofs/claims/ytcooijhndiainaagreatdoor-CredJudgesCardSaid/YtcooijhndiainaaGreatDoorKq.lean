/- The walk of CredParses: for every input it tells true. -/
import Derived.Test.YtcooijhndiainaaGreatDoorKb
import Derived.Test.YtcooijhndiainaaGreatDoorPa
namespace Go.Proofs.YtcooijhndiainaaGreatDoor
open Go.RowKit

def asked (a b : AuthM) (i : Nat) : AuthM := if i = 2 then b else a
def parsedL (a b : AuthM) (e : Nat) : List Int := if e % 2 = 0 then (parseSysM (asked a b (e / 2))).1.groups else (parseMarkM (asked a b (e / 2))).1.sys.groups
theorem parsedL_even (a b : AuthM) (k : Nat) : parsedL a b (2 * k) = (parseSysM (asked a b k)).1.groups := by
  unfold parsedL; rw [if_pos (by omega), show 2 * k / 2 = k by omega]
theorem parsedL_odd (a b : AuthM) (k : Nat) : parsedL a b (2 * k + 1) = (parseMarkM (asked a b k)).1.sys.groups := by
  unfold parsedL; rw [if_neg (by omega), show (2 * k + 1) / 2 = k by omega]
theorem parseMark_small (a : AuthM) : (parseMarkM a).1.sys.machine.size ≤ 1099511627776 ∧ (parseMarkM a).1.sys.groups.length ≤ 16 := by
  by_cases h : (parseMarkM a).2 = 0
  · have := namedB_iff.1 (mayB_iff.1 (parseMark_yes h).2.1).2.2.2
    omega
  · have e : (parseMarkM a).1 = zeroMark := by
      unfold parseMarkM at h ⊢
      split
      · split
        · rename_i h1 h2; rw [if_pos h1, if_pos h2] at h; exact absurd rfl h
        · rfl
      · rfl
    rw [e]
    exact ⟨by decide, by decide⟩
theorem parseSys_small16 (a : AuthM) : (parseSysM a).1.groups.length ≤ 16 := by
  by_cases h : (parseSysM a).2 = 0
  · have := namedB_iff.1 (parseSys_yes h).2.1
    omega
  · have e : (parseSysM a).1 = zeroSys := by
      unfold parseSysM at h ⊢
      split
      · split
        · rename_i h1 h2; rw [if_pos h1, if_pos h2] at h; exact absurd rfl h
        · rfl
      · rfl
    rw [e]
    decide
theorem parsedL_small (a b : AuthM) (e : Nat) : (parsedL a b e).length ≤ 16 := by
  unfold parsedL
  split
  · exact parseSys_small16 _
  · exact (parseMark_small _).2

/-- a list that came out: its row lies behind the world it was made in. -/
def OwnI (w0 w : World) (A : Option Addr) (xs : List Int) (c : Nat) : Prop := w.ownsRow w0.heap.size 3 1 (.slice A xs.length c) xs.length (xs.map (Value.int .i64))
theorem OwnI.ints {w0 w : World} {A : Option Addr} {xs : List Int} {c : Nat} (h : OwnI w0 w A xs c) : IntsAt w A xs := IntsAt.ofRow h
theorem OwnI.fr {w0 w w' : World} {A : Option Addr} {xs : List Int} {c : Nat} (h : OwnI w0 w A xs c) (hf : Fr (fun _ => False) w w') : OwnI w0 w' A xs c := owns_fr h hf (fun _ _ h => h)
theorem OwnI.at_ {w0 w : World} {A : Option Addr} {xs : List Int} {c : Nat} (h : OwnI w0 w A xs c) : ∀ a, A = some a → w0.heap.size ≤ a.block ∧ a.block < w.heap.size := fun a ha => World.ownsRow.lt h a.block (by rw [ha]; rfl)
theorem OwnI.low {w0 w : World} {A : Option Addr} {xs : List Int} {c base : Nat} (h : OwnI w0 w A xs c) (hb : base ≤ w0.heap.size) : w.ownsRow base 3 1 (.slice A xs.length c) xs.length (xs.map (Value.int .i64)) := ownsRow_lower h hb

theorem PaI.two {wr : World} {lv mv : Value} {L : List Value} {K n1 n2 c1 c2 mid : Nat} {A1 A2 : Option Addr} {g1 g2 : Value}
    (h : (∀ b, lv.ownBlock = some b → b < wr.heap.size) ∧ (∀ b, mv.ownBlock = some b → b < wr.heap.size) ∧ (∀ e, e < K → ∀ b, (gAt L e).ownBlock = some b → b < wr.heap.size))
    (e1 : g1 = .slice A1 n1 c1) (e2 : g2 = .slice A2 n2 c2)
    (h1 : ∀ a, A1 = some a → wr.heap.size ≤ a.block ∧ a.block < mid) (h2 : ∀ a, A2 = some a → wr.heap.size ≤ a.block ∧ mid ≤ a.block) :
    (∀ b, g1.ownBlock = some b → lv.ownBlock ≠ some b ∧ mv.ownBlock ≠ some b ∧ (∀ e, e < K → (gAt L e).ownBlock ≠ some b) ∧ g2.ownBlock ≠ some b) ∧
    (∀ b, g2.ownBlock = some b → lv.ownBlock ≠ some b ∧ mv.ownBlock ≠ some b ∧ (∀ e, e < K → (gAt L e).ownBlock ≠ some b) ∧ g1.ownBlock ≠ some b) := by
  subst e1 e2
  refine ⟨fun b hb => ?_, fun b hb => ?_⟩
  · obtain ⟨a, ha, rfl⟩ := own_slice hb
    have k := h1 a ha
    refine ⟨fun e => by have := h.1 _ e; omega, fun e => by have := h.2.1 _ e; omega, fun i hi e => by have := h.2.2 i hi _ e; omega, fun e => ?_⟩
    obtain ⟨a2, ha2, e2⟩ := own_slice e
    have := h2 a2 ha2; omega
  · obtain ⟨a, ha, rfl⟩ := own_slice hb
    have k := h2 a ha
    refine ⟨fun e => by have := h.1 _ e; omega, fun e => by have := h.2.1 _ e; omega, fun i hi e => by have := h.2.2 i hi _ e; omega, fun e => ?_⟩
    obtain ⟨a2, ha2, e2⟩ := own_slice e
    have := h1 a2 ha2; omega
theorem cell_two_new (w : World) (x y : Value) (t : TypeId) : ∀ j u, [x, y][j]? = some u → (w.alloc (.cells #[x, y] t (0, 0))).cell? ((⟨w.heap.size, 0, none⟩ : Addr).add j) = some u := by
  intro j u h
  match j, h with
  | 0, h => injection h with h; subst h; exact cellOf (heap_alloc_new w _) 0
  | 1, h => injection h with h; subst h; exact cellOf (heap_alloc_new w _) 1
  | j + 2, h => cases h
theorem ParseSys_own {a : AuthM} {s : SysM} {e : Int} (h : parseSysM a = (s, e)) (w : World) (hg : ErrT w) (hs : a.body.size ≤ 1099511627776) :
    Calls Tryz.prog 20 #[.agg #[.int .i64 a.flavor, .string a.body]] w fun r w' => Fr (fun _ => False) w w' ∧ ∃ A c, r = .returned (.tuple #[.agg #[.int .i64 s.stamp, .string s.machine, .int .i64 s.user, .int .i64 s.group, .slice A s.groups.length c], .int .i64 e]) ∧ OwnI w w' A s.groups c := by
  have k := ParseSys_any a w hg hs
  rw [h] at k
  refine k.mono ?_
  rintro r w' ⟨hf, gv, rfl, hI⟩
  obtain ⟨A, c, rfl⟩ := hI.slice
  exact ⟨hf, A, c, rfl, hI⟩
theorem ParseMark_own {a : AuthM} {m : MarkM} {e : Int} (h : parseMarkM a = (m, e)) (w : World) (hg : ErrT w) (hs : a.body.size ≤ 1099511627776) :
    Calls Tryz.prog 22 #[.agg #[.int .i64 a.flavor, .string a.body]] w fun r w' => Fr (fun _ => False) w w' ∧ ∃ A c, r = .returned (.tuple #[.agg #[.int .i64 m.inst, .int .i64 m.seq, .int .i64 m.water, .int .i64 m.sys.stamp, .string m.sys.machine, .int .i64 m.sys.user, .int .i64 m.sys.group, .slice A m.sys.groups.length c], .int .i64 e]) ∧ OwnI w w' A m.sys.groups c := by
  have k := ParseMark_any a w hg hs
  rw [h] at k
  refine k.mono ?_
  rintro r w' ⟨hf, gv, rfl, hI⟩
  obtain ⟨A, c, rfl⟩ := hI.slice
  exact ⟨hf, A, c, rfl, hI⟩
theorem rParseSys_own {a : AuthM} {s : SysM} {e : Int} (h : parseSysM a = (s, e)) (w : World) (hs : a.body.size ≤ 1099511627776) :
    Calls Tryz.prog 21 #[.agg #[.int .i64 a.flavor, .string a.body]] w fun r w' => Fr (fun _ => False) w w' ∧ ∃ A c, r = .returned (.tuple #[.agg #[.int .i64 s.stamp, .string s.machine, .int .i64 s.user, .int .i64 s.group, .slice A s.groups.length c], .int .i64 e]) ∧ OwnI w w' A s.groups c := by
  have k := rParseSys_any a w hs
  rw [h] at k
  refine k.mono ?_
  rintro r w' ⟨hf, gv, rfl, hI⟩
  obtain ⟨A, c, rfl⟩ := hI.slice
  exact ⟨hf, A, c, rfl, hI⟩
theorem rParseMark_own {a : AuthM} {m : MarkM} {e : Int} (h : parseMarkM a = (m, e)) (w : World) (hs : a.body.size ≤ 1099511627776) :
    Calls Tryz.prog 23 #[.agg #[.int .i64 a.flavor, .string a.body]] w fun r w' => Fr (fun _ => False) w w' ∧ ∃ A c, r = .returned (.tuple #[.agg #[.int .i64 m.inst, .int .i64 m.seq, .int .i64 m.water, .int .i64 m.sys.stamp, .string m.sys.machine, .int .i64 m.sys.user, .int .i64 m.sys.group, .slice A m.sys.groups.length c], .int .i64 e]) ∧ OwnI w w' A m.sys.groups c := by
  have k := rParseMark_any a w hs
  rw [h] at k
  refine k.mono ?_
  rintro r w' ⟨hf, gv, rfl, hI⟩
  obtain ⟨A, c, rfl⟩ := hI.slice
  exact ⟨hf, A, c, rfl, hI⟩

def AskedAt (w : World) (b : Nat) (x y : AuthM) : Prop := w.heap[b]? = some (.cells #[.int .i64 x.flavor, .string x.body, .int .i64 x.flavor, .string x.body, .int .i64 y.flavor, .string y.body, .int .i64 x.flavor, .string x.body] 32 (0, 0))
theorem AskedAt.fr' {w w' : World} {b : Nat} {x y : AuthM} (h : AskedAt w b x y) (hf : Fr (fun _ => False) w w') : AskedAt w' b x y := (hf.block b (lt_of_block h) id).trans h
theorem AskedAt.cell {w : World} {b : Nat} {x y : AuthM} (h : AskedAt w b x y) {k : Nat} (hk : k < 4) : w.cell? ⟨b, k * 2, none⟩ = some (.int .i64 (asked x y k).flavor) ∧ w.cell? ⟨b, k * 2 + 1, none⟩ = some (.string (asked x y k).body) := by
  rcases (by omega : k = 0 ∨ k = 1 ∨ k = 2 ∨ k = 3) with h1 | h1 | h1 | h1 <;> subst h1
  · exact ⟨cellOf h 0, cellOf h 1⟩
  · exact ⟨cellOf h 2, cellOf h 3⟩
  · exact ⟨cellOf h 4, cellOf h 5⟩
  · exact ⟨cellOf h 6, cellOf h 7⟩

set_option maxRecDepth 100000 in
set_option maxHeartbeats 8000000 in
theorem CredParses_any (x y : AuthM) (w : World) (hg : ErrT w) :
    Calls Tryz.prog 4 #[.agg #[.int .i64 x.flavor, .string x.body], .agg #[.int .i64 y.flavor, .string y.body]] w fun r w' => r = .returned (.bool true) ∧ Fr (fun _ => False) w w' := by
  have hx1 := Lib.hid (heap_two (w := w) (a := .cells #[.int .i64 x.flavor, .string x.body] 32) (b := .cells #[.int .i64 y.flavor, .string y.body] 32))
  have hx0 := Lib.hid (heap_old (o := .cells #[.int .i64 y.flavor, .string y.body] 32) (heap_alloc_new w (.cells #[.int .i64 x.flavor, .string x.body] 32)))
  have hfw := Lib.hid (((Fr.refl (fun _ => False) w).alloc (.cells #[.int .i64 x.flavor, .string x.body] 32)).alloc (.cells #[.int .i64 y.flavor, .string y.body] 32))
  have HG := Lib.hid hg
  clear hg
  by_cases hW : 2147483647 < addsM x.body.size y.body.size
  · go_enter Tryz.func4, Tryz.ntmps4
    go_wp2_with (go_at_call 11; refine (addsUp_same _ _ _ (by omega) (by omega)).mono ?_; rintro e w4 ⟨rfl, rfl⟩)
    go_ret
    exact ⟨rfl, hfw.out⟩
  have hsz : x.body.size ≤ 2147483647 ∧ y.body.size ≤ 2147483647 := by unfold addsM at hW; split at hW <;> omega
  have HS := Lib.hid hsz
  go_enter Tryz.func4, Tryz.ntmps4
  go_wp2_with (go_at_call 11; refine (addsUp_same _ _ _ (by omega) (by omega)).mono ?_; rintro e w4 ⟨rfl, rfl⟩)
  refine (awake_any _ (HG.out.fr hfw.out id)).mono ?_
  rintro e w3 ⟨rfl, hf3⟩
  have hx0 := hidMove hx0 hf3 id
  have hx1 := hidMove hx1 hf3 id
  have hfw := Lib.hid (hfw.out.then hf3 (fun _ _ h => h))
  obtain ⟨x0, x1, _, _⟩ := box2 hx0
  obtain ⟨y0, y1, _, _⟩ := box2 hx1
  have hl0 : w.heap.size < w3.heap.size := lt_of_block hx0.out
  have hl1 : w.heap.size + 1 < w3.heap.size := lt_of_block hx1.out
  clear hf3 hW hsz
  have hak := Lib.hid (show AskedAt (w3.alloc (Obj.cells #[.int .i64 x.flavor, .string x.body, .int .i64 x.flavor, .string x.body, .int .i64 y.flavor, .string y.body, .int .i64 x.flavor, .string x.body] 32 (0, 0))) w3.heap.size x y from heap_alloc_new w3 _)
  have HF : Hid (Fr (fun k => w.heap.size ≤ k) w (w3.alloc (Obj.cells #[.int .i64 x.flavor, .string x.body, .int .i64 x.flavor, .string x.body, .int .i64 y.flavor, .string y.body, .int .i64 x.flavor, .string x.body] 32 (0, 0)))) := Lib.hid ((hfw.out.alloc _).mono (fun _ _ h => h.elim))
  have HG4 := Lib.hid (HG.out.fr (hfw.out.alloc (Obj.cells #[.int .i64 x.flavor, .string x.body, .int .i64 x.flavor, .string x.body, .int .i64 y.flavor, .string y.body, .int .i64 x.flavor, .string x.body] 32 (0, 0))) id)
  have HP := Lib.hid (PaI.start (parsedL x y) w.heap.size (w3.alloc (Obj.cells #[.int .i64 x.flavor, .string x.body, .int .i64 x.flavor, .string x.body, .int .i64 y.flavor, .string y.body, .int .i64 x.flavor, .string x.body] 32 (0, 0))))
  obtain ⟨i1, hi1, hza, hzb, hzc⟩ := info_parts Tryz.infoInts
  go_wp2_with fail
  clear x0 x1 y0 y1 hl0 hl1 hx0 hx1
  go_loopw [7, 8, 9] (fun lv mv q wr => ∃ k : Nat, k ≤ 4 ∧ q = .int .i64 k ∧ Hid (Fr (fun k => w.heap.size ≤ k) w wr) ∧ Hid (AskedAt wr w3.heap.size x y) ∧ Hid (ErrT wr) ∧ Hid (∃ L M, PaI (2 * k) (2 * k) (parsedL x y) w.heap.size wr lv L mv M ∧ lv.ownBlock ≠ some w3.heap.size ∧ mv.ownBlock ≠ some w3.heap.size)) (fun _ _ q _ => 4 - (intOf q).toNat)
  case atStart => exact ⟨0, by omega, rfl, HF, hak, HG4, Lib.hid ⟨_, _, HP.out, by simp [Value.ownBlock], by simp [Value.ownBlock]⟩⟩
  case round =>
    clear HF hak HG4 HP
    obtain ⟨k, hk, rfl, HF, HK, HE, HP⟩ := hrel
    by_cases hlt : k < 4
    · obtain ⟨k0, k1⟩ := HK.out.cell hlt
      have hl3 : w3.heap.size < wr.heap.size := lt_of_block HK.out
      have hz : (asked x y k).body.size ≤ 1099511627776 := by unfold asked; have := HS.out; split <;> omega
      have HZ := Lib.hid hz
      clear hz
      obtain ⟨S, eS, hS⟩ : ∃ S e, parseSysM (asked x y k) = (S, e) := ⟨_, _, rfl⟩
      obtain ⟨T, eT, hT⟩ : ∃ S e, parseMarkM (asked x y k) = (S, e) := ⟨_, _, rfl⟩
      have HSM := Lib.hid hS
      have HTM := Lib.hid hT
      have HSmall := Lib.hid (show S.groups.length ≤ 16 ∧ T.sys.groups.length ≤ 16 from ⟨by have := parseSys_small16 (asked x y k); rw [hS] at this; exact this, by have := (parseMark_small (asked x y k)).2; rw [hT] at this; exact this⟩)
      clear hS hT
      go_wp2_with fail
      refine (ParseSys_own HSM.out _ HE.out HZ.out).mono ?_
      rintro e v1 ⟨hf1, A1, c1, rfl, hO1⟩
      have hA1 := Lib.hid ((fun a ha => (by have := hO1.at_ a ha; simpa using this : wr.heap.size ≤ a.block ∧ a.block < v1.heap.size)) : ∀ a, A1 = some a → wr.heap.size ≤ a.block ∧ a.block < v1.heap.size)
      clear k0 k1 hl3
      have hr := Lib.hid (hf1.alloc (Obj.cells #[.int .i64 S.stamp, .string S.machine, .int .i64 S.user, .int .i64 S.group, .slice A1 S.groups.length c1] 24 (0, 0)))
      have z1 : wr.heap.size ≤ v1.heap.size := by have := hf1.size; simpa using this
      replace hO1 := Lib.hid (hO1.fr ((Fr.refl _ _).alloc (Obj.cells #[.int .i64 S.stamp, .string S.machine, .int .i64 S.user, .int .i64 S.group, .slice A1 S.groups.length c1] 24 (0, 0))))
      have hb1 := Lib.hid (heap_alloc_new v1 (Obj.cells #[.int .i64 S.stamp, .string S.machine, .int .i64 S.user, .int .i64 S.group, .slice A1 S.groups.length c1] 24 (0, 0)))
      clear hf1
      obtain ⟨k0, k1⟩ := (show AskedAt _ w3.heap.size x y from HK.out.fr' hr.out).cell hlt
      have hl3 : w3.heap.size < v1.heap.size + 1 := by have := lt_of_block (show _ = _ from HK.out.fr' hr.out); simpa using this
      go_wp2_with fail
      refine (rParseSys_own HSM.out _ HZ.out).mono ?_
      rintro e v2 ⟨hf2, A2, c2, rfl, hO2⟩
      have hA2 := Lib.hid ((fun a ha => (by have := hO2.at_ a ha; simpa using this : v1.heap.size + 1 ≤ a.block ∧ a.block < v2.heap.size)) : ∀ a, A2 = some a → v1.heap.size + 1 ≤ a.block ∧ a.block < v2.heap.size)
      clear k0 k1 hl3
      replace hr := Lib.hid ((hr.out.trans hf2).alloc (Obj.cells #[.int .i64 S.stamp, .string S.machine, .int .i64 S.user, .int .i64 S.group, .slice A2 S.groups.length c2] 24 (0, 0)))
      have z2 : v1.heap.size + 1 ≤ v2.heap.size := by have := hf2.size; simpa using this
      replace hO1 := Lib.hid ((hO1.out.fr hf2).fr ((Fr.refl _ _).alloc (Obj.cells #[.int .i64 S.stamp, .string S.machine, .int .i64 S.user, .int .i64 S.group, .slice A2 S.groups.length c2] 24 (0, 0))))
      replace hb1 := Lib.hid (heap_old (o := (Obj.cells #[.int .i64 S.stamp, .string S.machine, .int .i64 S.user, .int .i64 S.group, .slice A2 S.groups.length c2] 24 (0, 0))) (hidMove hb1 hf2 id).out)
      replace hO2 := Lib.hid (hO2.fr ((Fr.refl _ _).alloc (Obj.cells #[.int .i64 S.stamp, .string S.machine, .int .i64 S.user, .int .i64 S.group, .slice A2 S.groups.length c2] 24 (0, 0))))
      have hb2 := Lib.hid (heap_alloc_new v2 (Obj.cells #[.int .i64 S.stamp, .string S.machine, .int .i64 S.user, .int .i64 S.group, .slice A2 S.groups.length c2] 24 (0, 0)))
      clear hf2
      obtain ⟨k0, k1⟩ := (show AskedAt _ w3.heap.size x y from HK.out.fr' hr.out).cell hlt
      have hl3 : w3.heap.size < v2.heap.size + 1 := by have := lt_of_block (show _ = _ from HK.out.fr' hr.out); simpa using this
      go_wp2_with fail
      refine (ParseMark_own HTM.out _ (HE.out.fr hr.out id) HZ.out).mono ?_
      rintro e v3 ⟨hf3, A3, c3, rfl, hO3⟩
      have hA3 := Lib.hid ((fun a ha => (by have := hO3.at_ a ha; simpa using this : v2.heap.size + 1 ≤ a.block ∧ a.block < v3.heap.size)) : ∀ a, A3 = some a → v2.heap.size + 1 ≤ a.block ∧ a.block < v3.heap.size)
      clear k0 k1 hl3
      replace hr := Lib.hid ((hr.out.trans hf3).alloc (Obj.cells #[.int .i64 T.inst, .int .i64 T.seq, .int .i64 T.water, .int .i64 T.sys.stamp, .string T.sys.machine, .int .i64 T.sys.user, .int .i64 T.sys.group, .slice A3 T.sys.groups.length c3] 26 (0, 0)))
      have z3 : v2.heap.size + 1 ≤ v3.heap.size := by have := hf3.size; simpa using this
      replace hO1 := Lib.hid ((hO1.out.fr hf3).fr ((Fr.refl _ _).alloc (Obj.cells #[.int .i64 T.inst, .int .i64 T.seq, .int .i64 T.water, .int .i64 T.sys.stamp, .string T.sys.machine, .int .i64 T.sys.user, .int .i64 T.sys.group, .slice A3 T.sys.groups.length c3] 26 (0, 0))))
      replace hb1 := Lib.hid (heap_old (o := (Obj.cells #[.int .i64 T.inst, .int .i64 T.seq, .int .i64 T.water, .int .i64 T.sys.stamp, .string T.sys.machine, .int .i64 T.sys.user, .int .i64 T.sys.group, .slice A3 T.sys.groups.length c3] 26 (0, 0))) (hidMove hb1 hf3 id).out)
      replace hO2 := Lib.hid ((hO2.out.fr hf3).fr ((Fr.refl _ _).alloc (Obj.cells #[.int .i64 T.inst, .int .i64 T.seq, .int .i64 T.water, .int .i64 T.sys.stamp, .string T.sys.machine, .int .i64 T.sys.user, .int .i64 T.sys.group, .slice A3 T.sys.groups.length c3] 26 (0, 0))))
      replace hb2 := Lib.hid (heap_old (o := (Obj.cells #[.int .i64 T.inst, .int .i64 T.seq, .int .i64 T.water, .int .i64 T.sys.stamp, .string T.sys.machine, .int .i64 T.sys.user, .int .i64 T.sys.group, .slice A3 T.sys.groups.length c3] 26 (0, 0))) (hidMove hb2 hf3 id).out)
      replace hO3 := Lib.hid (hO3.fr ((Fr.refl _ _).alloc (Obj.cells #[.int .i64 T.inst, .int .i64 T.seq, .int .i64 T.water, .int .i64 T.sys.stamp, .string T.sys.machine, .int .i64 T.sys.user, .int .i64 T.sys.group, .slice A3 T.sys.groups.length c3] 26 (0, 0))))
      have hb3 := Lib.hid (heap_alloc_new v3 (Obj.cells #[.int .i64 T.inst, .int .i64 T.seq, .int .i64 T.water, .int .i64 T.sys.stamp, .string T.sys.machine, .int .i64 T.sys.user, .int .i64 T.sys.group, .slice A3 T.sys.groups.length c3] 26 (0, 0)))
      clear hf3
      obtain ⟨k0, k1⟩ := (show AskedAt _ w3.heap.size x y from HK.out.fr' hr.out).cell hlt
      have hl3 : w3.heap.size < v3.heap.size + 1 := by have := lt_of_block (show _ = _ from HK.out.fr' hr.out); simpa using this
      go_wp2_with fail
      refine (rParseMark_own HTM.out _ HZ.out).mono ?_
      rintro e v4 ⟨hf4, A4, c4, rfl, hO4⟩
      have hA4 := Lib.hid ((fun a ha => (by have := hO4.at_ a ha; simpa using this : v3.heap.size + 1 ≤ a.block ∧ a.block < v4.heap.size)) : ∀ a, A4 = some a → v3.heap.size + 1 ≤ a.block ∧ a.block < v4.heap.size)
      clear k0 k1 hl3
      replace hr := Lib.hid ((hr.out.trans hf4).alloc (Obj.cells #[.int .i64 T.inst, .int .i64 T.seq, .int .i64 T.water, .int .i64 T.sys.stamp, .string T.sys.machine, .int .i64 T.sys.user, .int .i64 T.sys.group, .slice A4 T.sys.groups.length c4] 26 (0, 0)))
      have z4 : v3.heap.size + 1 ≤ v4.heap.size := by have := hf4.size; simpa using this
      replace hO1 := Lib.hid ((hO1.out.fr hf4).fr ((Fr.refl _ _).alloc (Obj.cells #[.int .i64 T.inst, .int .i64 T.seq, .int .i64 T.water, .int .i64 T.sys.stamp, .string T.sys.machine, .int .i64 T.sys.user, .int .i64 T.sys.group, .slice A4 T.sys.groups.length c4] 26 (0, 0))))
      replace hb1 := Lib.hid (heap_old (o := (Obj.cells #[.int .i64 T.inst, .int .i64 T.seq, .int .i64 T.water, .int .i64 T.sys.stamp, .string T.sys.machine, .int .i64 T.sys.user, .int .i64 T.sys.group, .slice A4 T.sys.groups.length c4] 26 (0, 0))) (hidMove hb1 hf4 id).out)
      replace hO2 := Lib.hid ((hO2.out.fr hf4).fr ((Fr.refl _ _).alloc (Obj.cells #[.int .i64 T.inst, .int .i64 T.seq, .int .i64 T.water, .int .i64 T.sys.stamp, .string T.sys.machine, .int .i64 T.sys.user, .int .i64 T.sys.group, .slice A4 T.sys.groups.length c4] 26 (0, 0))))
      replace hb2 := Lib.hid (heap_old (o := (Obj.cells #[.int .i64 T.inst, .int .i64 T.seq, .int .i64 T.water, .int .i64 T.sys.stamp, .string T.sys.machine, .int .i64 T.sys.user, .int .i64 T.sys.group, .slice A4 T.sys.groups.length c4] 26 (0, 0))) (hidMove hb2 hf4 id).out)
      replace hO3 := Lib.hid ((hO3.out.fr hf4).fr ((Fr.refl _ _).alloc (Obj.cells #[.int .i64 T.inst, .int .i64 T.seq, .int .i64 T.water, .int .i64 T.sys.stamp, .string T.sys.machine, .int .i64 T.sys.user, .int .i64 T.sys.group, .slice A4 T.sys.groups.length c4] 26 (0, 0))))
      replace hb3 := Lib.hid (heap_old (o := (Obj.cells #[.int .i64 T.inst, .int .i64 T.seq, .int .i64 T.water, .int .i64 T.sys.stamp, .string T.sys.machine, .int .i64 T.sys.user, .int .i64 T.sys.group, .slice A4 T.sys.groups.length c4] 26 (0, 0))) (hidMove hb3 hf4 id).out)
      replace hO4 := Lib.hid (hO4.fr ((Fr.refl _ _).alloc (Obj.cells #[.int .i64 T.inst, .int .i64 T.seq, .int .i64 T.water, .int .i64 T.sys.stamp, .string T.sys.machine, .int .i64 T.sys.user, .int .i64 T.sys.group, .slice A4 T.sys.groups.length c4] 26 (0, 0))))
      have hb4 := Lib.hid (heap_alloc_new v4 (Obj.cells #[.int .i64 T.inst, .int .i64 T.seq, .int .i64 T.water, .int .i64 T.sys.stamp, .string T.sys.machine, .int .i64 T.sys.user, .int .i64 T.sys.group, .slice A4 T.sys.groups.length c4] 26 (0, 0)))
      clear hf4
      obtain ⟨s0, s1, s2, s3, s4⟩ := box5 hb1
      obtain ⟨t0, t1, t2, t3, t4⟩ := box5 hb2
      have hl1 : v1.heap.size < v4.heap.size + 1 := by have := lt_of_block hb1.out; simpa using this
      have hl2 : v2.heap.size < v4.heap.size + 1 := by have := lt_of_block hb2.out; simpa using this
      go_wp2_with fail
      refine (syses_same S A1 A2 c1 c2 _ hO1.out.ints hO2.out.ints (by have := HSmall.out; omega)).mono ?_
      rintro e v5 ⟨rfl, hf5⟩
      clear s0 s1 s2 s3 s4 t0 t1 t2 t3 t4 hl1 hl2
      replace hr := Lib.hid (hr.out.trans hf5)
      have z5 : v4.heap.size + 1 ≤ v5.heap.size := by have := hf5.size; simpa using this
      replace hO1 := Lib.hid (hO1.out.fr hf5)
      replace hO2 := Lib.hid (hO2.out.fr hf5)
      replace hO3 := Lib.hid (hO3.out.fr hf5)
      replace hO4 := Lib.hid (hO4.out.fr hf5)
      replace hb1 := hidMove hb1 hf5 id
      replace hb2 := hidMove hb2 hf5 id
      replace hb3 := hidMove hb3 hf5 id
      replace hb4 := hidMove hb4 hf5 id
      clear hf5
      obtain ⟨s0, s1, s2, s3, s4, s5, s6, s7⟩ := box8 hb3
      obtain ⟨t0, t1, t2, t3, t4, t5, t6, t7⟩ := box8 hb4
      have hl1 : v3.heap.size < v5.heap.size := lt_of_block hb3.out
      have hl2 : v4.heap.size < v5.heap.size := lt_of_block hb4.out
      go_wp2_with fail
      refine (marks_same T A3 A4 c3 c4 _ hO3.out.ints hO4.out.ints (by have := HSmall.out; omega)).mono ?_
      rintro e v6 ⟨rfl, hf6⟩
      clear s0 s1 s2 s3 s4 s5 s6 s7 t0 t1 t2 t3 t4 t5 t6 t7 hl1 hl2
      replace hr := Lib.hid (hr.out.trans hf6)
      have z6 : v5.heap.size ≤ v6.heap.size := by have := hf6.size; simpa using this
      replace hO1 := Lib.hid (hO1.out.fr hf6)
      replace hO2 := Lib.hid (hO2.out.fr hf6)
      replace hO3 := Lib.hid (hO3.out.fr hf6)
      replace hO4 := Lib.hid (hO4.out.fr hf6)
      replace hb1 := hidMove hb1 hf6 id
      replace hb2 := hidMove hb2 hf6 id
      replace hb3 := hidMove hb3 hf6 id
      replace hb4 := hidMove hb4 hf6 id
      clear hf6
      obtain ⟨L, M, hp, hpl, hpm⟩ := HP.out
      have HPP := Lib.hid (hp.fr hr.out)
      have HPB := Lib.hid (show u7.ownBlock ≠ some w3.heap.size ∧ u8.ownBlock ≠ some w3.heap.size from ⟨hpl, hpm⟩)
      have HLT := Lib.hid (show (∀ b, u7.ownBlock = some b → b < wr.heap.size) ∧ (∀ b, u8.ownBlock = some b → b < wr.heap.size) ∧ (∀ e, e < 2 * k → ∀ b, (gAt L e).ownBlock = some b → b < wr.heap.size) from ⟨fun b h => (hp.hl.lt b h).2, fun b h => (hp.hm.lt b h).2, fun e he b h => ((hp.rows e he).lt b h).2⟩)
      clear hp hpl hpm HP
      obtain ⟨-, -, -, -, s4⟩ := box5 hb1
      obtain ⟨-, -, -, -, -, -, -, s7⟩ := box8 hb3
      have hl1 : v1.heap.size < v6.heap.size := lt_of_block hb1.out
      have hl3 : v3.heap.size < v6.heap.size := lt_of_block hb3.out
      have hx1 : parsedL x y (2 * k) = S.groups := by rw [parsedL_even, HSM.out]
      have hx2 : parsedL x y (2 * k + 1) = T.sys.groups := by rw [parsedL_odd, HTM.out]
      have HX := Lib.hid (show _ ∧ _ from ⟨hx1, hx2⟩)
      clear hx1 hx2
      go_wp2_with (with_reducible refine wpList_append_ap rfl (.tmp 95) (.tmp 101) 40 rfl w.heap.size 22 i1 (.slice none 0 0) 24 Tryz.underlying40 hi1 hza hzb hzc rfl u7 (2 * k) L rfl (HPP.out.hl.alloc _) ⟨v6.heap.size, 0, none⟩ 2 2 [.slice A1 S.groups.length c1, .slice A3 T.sys.groups.length c3] rfl rfl (cell_two_new _ _ _ _) ?c1 (by decide) ?c2 ?c3 ?c4 ?_)
      case c1 => intro u hu; rcases List.mem_cons.1 hu with rfl | hu; · rfl
                 rw [List.mem_singleton.1 hu]; rfl
      case c2 => unfold maxLen; omega
      case c3 => omega
      case c4 => rw [World.size_alloc]; have := HF.out.size; omega
      intro u7' v7 hown hgrow hat
      have hD := PaI.two HLT.out (g1 := .slice A1 S.groups.length c1) (g2 := .slice A3 T.sys.groups.length c3) (mid := v2.heap.size) rfl rfl (fun a ha => by have := hA1.out a ha; omega) (fun a ha => by have := hA3.out a ha; omega)
      have hN := HPP.out.addL (w1 := v7) (by rw [HX.out.1]; exact hO1.out.low HF.out.size) (by rw [HX.out.2]; exact hO3.out.low (by have := HF.out.size; simp; omega)) hD.1 hD.2 hown hgrow (hat.imp id (fun h => by rw [World.size_alloc]; exact h.1))
      replace HF : Hid (Fr (fun k => w.heap.size ≤ k) w v7) := Lib.hid (((HF.out.then hr.out (fun _ _ h => h.elim)).alloc _).grown hgrow (fun b hb => .inl (HPP.out.hl.lt b hb).1))
      have hz7 : v6.heap.size + 1 ≤ v7.heap.size := by have := hgrow.size; simpa using this
      have hn7 : ∀ b, u7'.ownBlock = some b → (b < wr.heap.size ∧ b ≠ w3.heap.size) ∨ b = v6.heap.size + 1 := fun b hb => by
        rcases hat with h | h
        · exact .inl ⟨HLT.out.1 b (h ▸ hb), fun e => HPB.out.1 (e ▸ h ▸ hb)⟩
        · rw [h.1] at hb; injection hb with hb; exact .inr hb.symm
      have hAK : AskedAt v7 w3.heap.size x y := grown_block hgrow (heap_old (show _ = _ from HK.out.fr' hr.out)) (fun e => HPB.out.1 e)
      replace hb2 := Lib.hid (grown_block hgrow (heap_old hb2.out) (fun e => by have := HLT.out.1 _ e; omega))
      replace hb4 := Lib.hid (grown_block hgrow (heap_old hb4.out) (fun e => by have := HLT.out.1 _ e; omega))
      replace hO2 : Hid (IntsAt v7 A2 S.groups) := Lib.hid (intsAt_stay (hO2.out.fr ((Fr.refl _ _).alloc _)).ints hgrow (fun a ha e => by have := HLT.out.1 _ e; have := hA2.out a ha; omega))
      replace hO4 : Hid (IntsAt v7 A4 T.sys.groups) := Lib.hid (intsAt_stay (hO4.out.fr ((Fr.refl _ _).alloc _)).ints hgrow (fun a ha e => by have := HLT.out.1 _ e; have := hA4.out a ha; omega))
      have hw3 : w3.heap.size < wr.heap.size := lt_of_block (show _ = _ from HK.out)
      have HK7 := Lib.hid hAK
      have HP7 := Lib.hid hN
      have HN7 := Lib.hid hn7
      clear hAK hN hn7 hown hgrow hat hD hb1 hb3 hO1 hO3 HPP s4 s7 hl1 hl3
      obtain ⟨-, -, -, -, s4⟩ := box5 hb2
      obtain ⟨-, -, -, -, -, -, -, s7⟩ := box8 hb4
      have hl1 : v2.heap.size < v7.heap.size := lt_of_block hb2.out
      have hl3 : v4.heap.size < v7.heap.size := lt_of_block hb4.out
      go_wp2_with (with_reducible refine wpList_append_ap rfl (.tmp 103) (.tmp 109) 40 rfl w.heap.size 22 i1 (.slice none 0 0) 24 Tryz.underlying40 hi1 hza hzb hzc rfl u8 (2 * k) M rfl (HP7.out.hm.alloc _) ⟨v7.heap.size, 0, none⟩ 2 2 [.slice A2 S.groups.length c2, .slice A4 T.sys.groups.length c4] rfl rfl (cell_two_new _ _ _ _) ?c1 (by decide) ?c2 ?c3 ?c4 ?_)
      case c1 => intro u hu; rcases List.mem_cons.1 hu with rfl | hu; · rfl
                 rw [List.mem_singleton.1 hu]; rfl
      case c2 => unfold maxLen; omega
      case c3 => omega
      case c4 => rw [World.size_alloc]; have := HF.out.size; omega
      intro u8' v8 hown hgrow hat
      have hN := HP7.out.addM (w1 := v8) (A1 := A2) (A2 := A4) (c1 := c2) (c2 := c4) (by rw [HX.out.1]; exact hO2.out) (by rw [HX.out.2]; exact hO4.out)
        (fun a ha => by have k1 := hA2.out a ha; exact ⟨by omega, fun e => by have := HN7.out _ e; omega, fun e => by have := HLT.out.2.1 _ e; omega⟩)
        (fun a ha => by have k1 := hA4.out a ha; exact ⟨by omega, fun e => by have := HN7.out _ e; omega, fun e => by have := HLT.out.2.1 _ e; omega⟩)
        (by rw [HX.out.1, HX.out.2]; exact hown) hgrow (hat.imp id (fun h => by rw [World.size_alloc]; exact h.1))
      have HF8 : Hid (Fr (fun k => w.heap.size ≤ k) w v8) := Lib.hid ((HF.out.alloc _).grown hgrow (fun b hb => .inl (HP7.out.hm.lt b hb).1))
      have HK8 : Hid (AskedAt v8 w3.heap.size x y) := Lib.hid (grown_block hgrow (heap_old (show _ = _ from HK7.out)) (fun e => HPB.out.2 e))
      have hn8 : u7'.ownBlock ≠ some w3.heap.size ∧ u8'.ownBlock ≠ some w3.heap.size := ⟨fun e => by have := HN7.out _ e; omega, fun e => by
        rcases hat with h | h
        · exact HPB.out.2 (h ▸ e)
        · rw [h.1] at e; injection e with e; omega⟩
      have HP8 := Lib.hid (⟨_, _, hN, hn8.1, hn8.2⟩ : ∃ L M, PaI (2 * k + 2) (2 * k + 2) (parsedL x y) w.heap.size v8 u7' L u8' M ∧ u7'.ownBlock ≠ some w3.heap.size ∧ u8'.ownBlock ≠ some w3.heap.size)
      have HG8 := Lib.hid (HG.out.fr HF8.out (by have := HG.out.lt; omega))
      clear hn8 hN hown hgrow hat HF HK7 HP7 hO2 hO4 hb2 hb4 hA1 hA2 hA3 hA4 s4 s7 hl1 hl3
      go_wp2
      exact ⟨⟨k + 1, by omega, by go_num, HF8, HK8, HG8, HP8⟩, by simp [intOf]; omega⟩
    · have hk4 : k = 4 := by omega
      subst hk4
      clear hlt
      obtain ⟨L, M, hp, -, -⟩ := HP.out
      obtain ⟨bl, lc, rfl, -⟩ := owns_some hp.hl (by decide)
      obtain ⟨bw, wc, rfl, -⟩ := owns_some hp.hm (by decide)
      have HA := Lib.hid (apart_any 8 (parsedL x y) L M bl lc bw wc w.heap.size wr hp.hl hp.hm hp.rows (fun j hj => by obtain ⟨A, c, h1, h2, _⟩ := hp.ints j hj; exact ⟨A, c, h1, h2⟩) hp.ap (by decide) (fun j => by have := parsedL_small x y j; omega))
      clear hp HP HK HE
      go_wp2_with fail
      refine HA.out.mono ?_
      rintro e v ⟨rfl, hf⟩
      go_wp2
      go_ret
      exact ⟨rfl, (HF.out.trans hf).mono (fun k h1 h2 => by omega)⟩
end Go.Proofs.YtcooijhndiainaaGreatDoor
