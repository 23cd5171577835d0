/- Package message: PrintCall. -/
import Derived.Test.YtlcjfafmmoncpaaGreatDoorMw
import Derived.Test.YtlcjfafmmoncpaaGreatDoorCp
namespace Go.Proofs.YtlcjfafmmoncpaaGreatDoor
open Go.RowKit
set_option linter.unusedVariables false
set_option linter.unusedSimpArgs false

structure AuthM where
  flavor : Int
  body : ByteArray
def authV (a : AuthM) : Value := .agg #[.int .i64 a.flavor, .string a.body]
def WSt.auth (st : WSt) (a : AuthM) : WSt := (st.uint a.flavor).opq 400 a.body

theorem WOk.auth {st : WSt} (h : WOk st) (a : AuthM) : WOk (st.auth a) := (h.uint _).opq _ _

theorem layAuth_wr {F : Nat → Prop} {b : Nat} {st : WSt} (a : AuthM) (w : World) (h : Wr w F b st) (hk : WOk st) (hs : a.body.size ≤ 140737488351232) :
    Calls Tryz.prog 148 #[.pointer (some ⟨b, 0, none⟩), authV a] w fun r w' => r = .returned (.tuple #[]) ∧ Fr F w w' ∧ Wr w' (Gw F w w') b (st.auth a) := by
  have hlow := h.low
  have hnb : ¬ F w.heap.size := fun h' => by have := hlow _ h'; omega
  have hw := Wi.start (w1 := w.alloc (.cells #[.int .i64 a.flavor, .string a.body] 122)) (lo := w.heap.size + 1) h hk ((Below.refl _ _).alloc (Nat.le_refl _) _) (by omega) (by simp)
  have hx := Lib.hid (heap_alloc_new w (.cells #[.int .i64 a.flavor, .string a.body] 122))
  have hout : ¬ Out F (w.heap.size + 1) w.heap.size := fun h' => h'.elim hnb (fun h' => by omega)
  clear hk h
  unfold authV WSt.auth
  go_enter Tryz.func148, Tryz.ntmps148
  go_wp2_with (first | (go_at_call 52; refine (hw.uint _).mono ?_; rintro e w2 ⟨rfl, hw, hk⟩; have hx := hidMove hx hk hout; obtain ⟨x0, x1, _, _⟩ := box2 hx) | (go_at_call 47; refine (hw.opq _ _ hs).mono ?_; rintro e w2 ⟨rfl, hw, hk⟩))
  go_end0
  exact ⟨rfl, hw.fr, hw.finish hlow⟩
theorem layAuth_any {w0 w : World} {F0 : Nat → Prop} {lo b : Nat} {st : WSt} (h : Wi w0 F0 lo b w st) (a : AuthM) (hs : a.body.size ≤ 140737488351232) :
    Calls Tryz.prog 148 #[.pointer (some ⟨b, 0, none⟩), authV a] w fun r w' => r = .returned (.tuple #[]) ∧ Wi w0 F0 lo b w' (st.auth a) ∧ Fr (Out F0 lo) w w' :=
  h.step (h.ok.auth a) (fun _ hw => layAuth_wr a w hw h.ok hs)

def fitsB (s : ByteArray) : Bool := decide ((s.size : Int) ≤ 1000) && ((s.size : Int) % 4 == 0)
theorem fits_any (s : ByteArray) (w : World) (hs : s.size ≤ 140737488351232) : Calls Tryz.prog 145 #[.string s] w fun r w' => r = .returned (.bool (fitsB s)) ∧ w = w' := by
  by_cases h : (s.size : Int) ≤ 1000
  · by_cases h2 : ((s.size : Int) % 4 == 0) = true
    · rw [show fitsB s = true by simp only [fitsB, h, h2]; rfl]
      go_enter Tryz.func145, Tryz.ntmps145
      go_wp2
      go_ret
      exact ⟨rfl, rfl⟩
    · rw [Bool.not_eq_true] at h2
      rw [show fitsB s = false by simp only [fitsB, h, h2]; rfl]
      go_enter Tryz.func145, Tryz.ntmps145
      go_wp2
      go_ret
      exact ⟨rfl, rfl⟩
  · rw [show fitsB s = false by simp only [fitsB, h]; rfl]
    go_enter Tryz.func145, Tryz.ntmps145
    go_wp2
    go_ret
    exact ⟨rfl, rfl⟩

def doneM (st : WSt) (ok : Bool) : ByteArray × Int := if st.e = 0 ∧ ok = true then (st.out, 0) else (ByteArray.empty, 120)
theorem mdone_any {w0 w : World} {F0 : Nat → Prop} {lo b : Nat} {st : WSt} (h : Wi w0 F0 lo b w st) (ok : Bool) (hg : ErrT w) :
    Calls Tryz.prog 149 #[.pointer (some ⟨b, 0, none⟩), .bool ok] w fun r w' => r = .returned (.tuple #[.string (doneM st ok).1, .int .i64 (doneM st ok).2]) ∧ Fr (fun _ => False) w w' := by
  have hD := Lib.hid (h.done hg)
  by_cases he : st.e = 0
  · have hb : st.body = st.out := if_pos he
    cases ok with
    | true =>
      rw [show doneM st true = (st.out, 0) by simp [doneM, he], ← hb]
      have he' : (st.e != 0) = false := by rw [he]; rfl
      clear he hb
      go_enter Tryz.func149, Tryz.ntmps149
      go_wp2_with (go_at_call 28; refine hD.out.mono ?_; rintro e w1 ⟨rfl, hf⟩)
      go_ret2
      exact ⟨rfl, hf⟩
    | false =>
      rw [show doneM st false = (ByteArray.empty, 120) by simp [doneM]]
      have he' : (st.e != 0) = false := by rw [he]; rfl
      clear he hb
      go_enter Tryz.func149, Tryz.ntmps149
      go_wp2_with (go_at_call 28; refine hD.out.mono ?_; rintro e w1 ⟨rfl, hf⟩)
      go_ret2
      exact ⟨rfl, hf⟩
  · rw [show doneM st ok = (ByteArray.empty, 120) by simp [doneM, he]]
    have he' : (st.e != 0) = true := by rw [bne_iff_ne]; exact he
    clear he
    go_enter Tryz.func149, Tryz.ntmps149
    go_wp2_with (go_at_call 28; refine hD.out.mono ?_; rintro e w1 ⟨rfl, hf⟩)
    go_ret2
    exact ⟨rfl, hf⟩

theorem box10 {w : World} {b t : Nat} {v0 v1 v2 v3 v4 v5 v6 v7 v8 v9 : Value} (h : Hid (w.heap[b]? = some (.cells #[v0, v1, v2, v3, v4, v5, v6, v7, v8, v9] t (0, 0)))) :
    w.cell? ⟨b, 0, none⟩ = some v0 ∧ w.cell? ⟨b, 1, none⟩ = some v1 ∧ w.cell? ⟨b, 2, none⟩ = some v2 ∧ w.cell? ⟨b, 3, none⟩ = some v3 ∧ w.cell? ⟨b, 4, none⟩ = some v4 ∧
      w.cell? ⟨b, 5, none⟩ = some v5 ∧ w.cell? ⟨b, 6, none⟩ = some v6 ∧ w.cell? ⟨b, 7, none⟩ = some v7 ∧ w.cell? ⟨b, 8, none⟩ = some v8 ∧ w.cell? ⟨b, 9, none⟩ = some v9 :=
  ⟨cellOf h.out 0, cellOf h.out 1, cellOf h.out 2, cellOf h.out 3, cellOf h.out 4, cellOf h.out 5, cellOf h.out 6, cellOf h.out 7, cellOf h.out 8, cellOf h.out 9⟩

structure CallM where
  xid : Int
  rpc : Int
  prog : Int
  vers : Int
  proc : Int
  cred : AuthM
  verf : AuthM
  args : ByteArray
def callCells (c : CallM) : Array Value := #[.int .i64 c.xid, .int .i64 c.rpc, .int .i64 c.prog, .int .i64 c.vers, .int .i64 c.proc, .int .i64 c.cred.flavor, .string c.cred.body, .int .i64 c.verf.flavor, .string c.verf.body, .string c.args]

def WSt.call (st : WSt) (c : CallM) : WSt := (((st.uints [c.xid, 0, c.rpc, c.prog, c.vers, c.proc]).auth c.cred).auth c.verf).raw c.args
def printCallM (c : CallM) : ByteArray × Int := doneM ((newW 4096).call c) ((c.rpc == 2) && fitsB c.args)

set_option maxRecDepth 100000 in
set_option maxHeartbeats 4000000 in
theorem PrintCall_any (c : CallM) (w : World) (hg : ErrT w) (h1 : c.cred.body.size ≤ 140737488351232) (h2 : c.verf.body.size ≤ 140737488351232) (h3 : c.args.size ≤ 140737488351232) :
    Calls Tryz.prog 107 #[.agg (callCells c)] w fun r w' => r = .returned (.tuple #[.string (printCallM c).1, .int .i64 (printCallM c).2]) ∧ Fr (fun _ => False) w w' := by
  have HG := Lib.hid hg
  have hxa := Lib.hid (heap_alloc_new w (.cells (callCells c) 137))
  have hgz := hg.lt
  clear hg
  by_cases hr : (c.rpc == 2) = true
  · rw [show printCallM c = doneM ((newW 4096).call c) (fitsB c.args) by simp [printCallM, hr]]
    unfold callCells at hxa ⊢
    go_enter Tryz.func107, Tryz.ntmps107
    go_wp2_with fail
    refine (WNew_any 4096 _ (by decide)).mono ?_
    rintro e w1 ⟨rfl, hf1, hw1⟩
    have e4 : max (4096 : Int) 0 = 4096 := by decide
    rw [e4] at hw1
    clear e4
    simp only [World.size_alloc] at hw1
    have hz1 : w.heap.size + 1 < w1.heap.size := hw1.low _ hw1.self
    have hxa := hidMove hxa hf1 id
    obtain ⟨n0, n1, n2, n3, n4, n5, n6, n7, n8, n9⟩ := box10 hxa
    have hps : Hid (∀ j, j < ([⟨w.heap.size, 0, none⟩, ⟨w1.heap.size, 0, none⟩, ⟨w.heap.size, 1, none⟩, ⟨w.heap.size, 2, none⟩, ⟨w.heap.size, 3, none⟩, ⟨w.heap.size, 4, none⟩] : List Addr).length →
        ((w1.alloc (.cells #[.int .i64 0] 3)).alloc (.cells #[.pointer (some ⟨w.heap.size, 0, none⟩), .pointer (some ⟨w1.heap.size, 0, none⟩), .pointer (some ⟨w.heap.size, 1, none⟩), .pointer (some ⟨w.heap.size, 2, none⟩), .pointer (some ⟨w.heap.size, 3, none⟩), .pointer (some ⟨w.heap.size, 4, none⟩)] 184)).cell? ⟨w1.heap.size + 1, j, none⟩
          = some (.pointer (some (([⟨w.heap.size, 0, none⟩, ⟨w1.heap.size, 0, none⟩, ⟨w.heap.size, 1, none⟩, ⟨w.heap.size, 2, none⟩, ⟨w.heap.size, 3, none⟩, ⟨w.heap.size, 4, none⟩] : List Addr).getD j default)))) := Lib.hid (by
      intro j hj
      match j, hj with
      | 0, _ => simp
      | 1, _ => simp
      | 2, _ => simp
      | 3, _ => simp
      | 4, _ => simp
      | 5, _ => simp)
    have hbw : Below w1.heap.size w1 ((w1.alloc (.cells #[.int .i64 0] 3)).alloc (.cells #[.pointer (some ⟨w.heap.size, 0, none⟩), .pointer (some ⟨w1.heap.size, 0, none⟩), .pointer (some ⟨w.heap.size, 1, none⟩), .pointer (some ⟨w.heap.size, 2, none⟩), .pointer (some ⟨w.heap.size, 3, none⟩), .pointer (some ⟨w.heap.size, 4, none⟩)] 184)) :=
      ((Below.refl _ _).alloc (Nat.le_refl _) _).alloc (by simp) _
    have hkind := Lib.hid (heap_old (o := .cells #[.pointer (some ⟨w.heap.size, 0, none⟩), .pointer (some ⟨w1.heap.size, 0, none⟩), .pointer (some ⟨w.heap.size, 1, none⟩), .pointer (some ⟨w.heap.size, 2, none⟩), .pointer (some ⟨w.heap.size, 3, none⟩), .pointer (some ⟨w.heap.size, 4, none⟩)] 184) (heap_alloc_new w1 (.cells #[.int .i64 0] 3)))
    have HBW := Lib.hid hbw
    clear hbw
    go_wp2_with (go_at_call 145; refine (fits_any _ _ h3).mono ?_; rintro e w' ⟨rfl, rfl⟩)
    refine (words_any (w1.heap.size + 1) 6 [⟨w.heap.size, 0, none⟩, ⟨w1.heap.size, 0, none⟩, ⟨w.heap.size, 1, none⟩, ⟨w.heap.size, 2, none⟩, ⟨w.heap.size, 3, none⟩, ⟨w.heap.size, 4, none⟩] _ (by simp) hps.out).mono ?_
    rintro e w4 ⟨v, rfl, hb4, ho4⟩
    obtain ⟨g, cp, rfl, hg1, hg2⟩ := owns_some ho4 (by simp)
    have hkind := hidMove hkind (Fr.ofBelow (S := fun _ => False) hb4) id
    have hb14 : Below w1.heap.size w1 w4 := HBW.out.trans (hb4.mono HBW.out.size)
    have hxa := hidMove hxa (Fr.ofBelow (S := fun _ => False) hb14) id
    have hz4 : w1.heap.size + 2 ≤ w4.heap.size := by have := hb4.size; simp at this; omega
    have hg3 : w1.heap.size + 2 ≤ g := by simpa using hg1
    have hI := Wi.start (lo := w4.heap.size) hw1 (newW_ok (m := 4096) (by decide) (by decide)) hb14 (by omega) (Nat.le_refl _)
    have hox : ¬ Out (fun k => k = w.heap.size + 1) w4.heap.size w.heap.size := fun h => by rcases h with h | h <;> omega
    have hok : ¬ Out (fun k => k = w.heap.size + 1) w4.heap.size w1.heap.size := fun h => by rcases h with h | h <;> omega
    have hog : ¬ Out (fun k => k = w.heap.size + 1) w4.heap.size g := fun h => by rcases h with h | h <;> omega
    obtain ⟨n0, n1, n2, n3, n4, n5, n6, n7, n8, n9⟩ := box10 hxa
    have hk0 := cellOf hkind.out 0
    have hnums : NumsAt w4 [⟨w.heap.size, 0, none⟩, ⟨w1.heap.size, 0, none⟩, ⟨w.heap.size, 1, none⟩, ⟨w.heap.size, 2, none⟩, ⟨w.heap.size, 3, none⟩, ⟨w.heap.size, 4, none⟩] [c.xid, 0, c.rpc, c.prog, c.vers, c.proc] := by
      refine ⟨rfl, fun j hj => ?_⟩
      match j, hj with
      | 0, _ => exact n0
      | 1, _ => exact hk0
      | 2, _ => exact n1
      | 3, _ => exact n2
      | 4, _ => exact n3
      | 5, _ => exact n4
    have hpout : ∀ j, j < ([⟨w.heap.size, 0, none⟩, ⟨w1.heap.size, 0, none⟩, ⟨w.heap.size, 1, none⟩, ⟨w.heap.size, 2, none⟩, ⟨w.heap.size, 3, none⟩, ⟨w.heap.size, 4, none⟩] : List Addr).length → ¬ Out (fun k => k = w.heap.size + 1) w4.heap.size (([⟨w.heap.size, 0, none⟩, ⟨w1.heap.size, 0, none⟩, ⟨w.heap.size, 1, none⟩, ⟨w.heap.size, 2, none⟩, ⟨w.heap.size, 3, none⟩, ⟨w.heap.size, 4, none⟩] : List Addr).getD j default).block := by
      intro j hj
      match j, hj with
      | 0, _ => exact hox
      | 1, _ => exact hok
      | 2, _ => exact hox
      | 3, _ => exact hox
      | 4, _ => exact hox
      | 5, _ => exact hox
    have HO := Lib.hid ho4
    have HN := Lib.hid hnums
    have HPO := Lib.hid hpout
    clear ho4 hnums hpout n0 n1 n2 n3 n4 n5 n6 n7 n8 n9 hk0
    go_wp2_with fail
    refine (lay_any hI _ _ (by simp) HO.out hog HN.out HPO.out).mono ?_
    rintro e w5 ⟨rfl, hI, hk5⟩
    have hxa := hidMove hxa hk5 hox
    obtain ⟨n0, n1, n2, n3, n4, n5, n6, n7, n8, n9⟩ := box10 hxa
    go_wp2_with fail
    refine (layAuth_any hI c.cred h1).mono ?_
    rintro e w6 ⟨rfl, hI, hk6⟩
    have hxa := hidMove hxa hk6 hox
    obtain ⟨n0, n1, n2, n3, n4, n5, n6, n7, n8, n9⟩ := box10 hxa
    go_wp2_with fail
    refine (layAuth_any hI c.verf h2).mono ?_
    rintro e w7 ⟨rfl, hI, hk7⟩
    have hxa := hidMove hxa hk7 hox
    obtain ⟨n0, n1, n2, n3, n4, n5, n6, n7, n8, n9⟩ := box10 hxa
    go_wp2_with fail
    refine (hI.raw c.args h3).mono ?_
    rintro e w8 ⟨rfl, hI, hk8⟩
    have hfw : Fr (fun _ => False) w w8 := (((Fr.refl _ _).alloc _).then hf1 (fun _ _ h => h)).then hI.fr (fun i hi e => by omega)
    have HG8 := Lib.hid (HG.out.fr hfw id)
    go_wp2_with fail
    refine (mdone_any hI _ HG8.out).mono ?_
    rintro e w9 ⟨rfl, hf9⟩
    go_wp2_with fail
    go_ret2
    exact ⟨rfl, hfw.then hf9 (fun _ _ h => h)⟩
  · rw [Bool.not_eq_true] at hr
    rw [show printCallM c = doneM ((newW 4096).call c) false by simp [printCallM, hr]]
    unfold callCells at hxa ⊢
    go_enter Tryz.func107, Tryz.ntmps107
    go_wp2_with fail
    refine (WNew_any 4096 _ (by decide)).mono ?_
    rintro e w1 ⟨rfl, hf1, hw1⟩
    have e4 : max (4096 : Int) 0 = 4096 := by decide
    rw [e4] at hw1
    clear e4
    simp only [World.size_alloc] at hw1
    have hz1 : w.heap.size + 1 < w1.heap.size := hw1.low _ hw1.self
    have hxa := hidMove hxa hf1 id
    obtain ⟨n0, n1, n2, n3, n4, n5, n6, n7, n8, n9⟩ := box10 hxa
    have hps : Hid (∀ j, j < ([⟨w.heap.size, 0, none⟩, ⟨w1.heap.size, 0, none⟩, ⟨w.heap.size, 1, none⟩, ⟨w.heap.size, 2, none⟩, ⟨w.heap.size, 3, none⟩, ⟨w.heap.size, 4, none⟩] : List Addr).length →
        ((w1.alloc (.cells #[.int .i64 0] 3)).alloc (.cells #[.pointer (some ⟨w.heap.size, 0, none⟩), .pointer (some ⟨w1.heap.size, 0, none⟩), .pointer (some ⟨w.heap.size, 1, none⟩), .pointer (some ⟨w.heap.size, 2, none⟩), .pointer (some ⟨w.heap.size, 3, none⟩), .pointer (some ⟨w.heap.size, 4, none⟩)] 184)).cell? ⟨w1.heap.size + 1, j, none⟩
          = some (.pointer (some (([⟨w.heap.size, 0, none⟩, ⟨w1.heap.size, 0, none⟩, ⟨w.heap.size, 1, none⟩, ⟨w.heap.size, 2, none⟩, ⟨w.heap.size, 3, none⟩, ⟨w.heap.size, 4, none⟩] : List Addr).getD j default)))) := Lib.hid (by
      intro j hj
      match j, hj with
      | 0, _ => simp
      | 1, _ => simp
      | 2, _ => simp
      | 3, _ => simp
      | 4, _ => simp
      | 5, _ => simp)
    have hbw : Below w1.heap.size w1 ((w1.alloc (.cells #[.int .i64 0] 3)).alloc (.cells #[.pointer (some ⟨w.heap.size, 0, none⟩), .pointer (some ⟨w1.heap.size, 0, none⟩), .pointer (some ⟨w.heap.size, 1, none⟩), .pointer (some ⟨w.heap.size, 2, none⟩), .pointer (some ⟨w.heap.size, 3, none⟩), .pointer (some ⟨w.heap.size, 4, none⟩)] 184)) :=
      ((Below.refl _ _).alloc (Nat.le_refl _) _).alloc (by simp) _
    have hkind := Lib.hid (heap_old (o := .cells #[.pointer (some ⟨w.heap.size, 0, none⟩), .pointer (some ⟨w1.heap.size, 0, none⟩), .pointer (some ⟨w.heap.size, 1, none⟩), .pointer (some ⟨w.heap.size, 2, none⟩), .pointer (some ⟨w.heap.size, 3, none⟩), .pointer (some ⟨w.heap.size, 4, none⟩)] 184) (heap_alloc_new w1 (.cells #[.int .i64 0] 3)))
    have HBW := Lib.hid hbw
    clear hbw
    go_wp2_with fail
    refine (words_any (w1.heap.size + 1) 6 [⟨w.heap.size, 0, none⟩, ⟨w1.heap.size, 0, none⟩, ⟨w.heap.size, 1, none⟩, ⟨w.heap.size, 2, none⟩, ⟨w.heap.size, 3, none⟩, ⟨w.heap.size, 4, none⟩] _ (by simp) hps.out).mono ?_
    rintro e w4 ⟨v, rfl, hb4, ho4⟩
    obtain ⟨g, cp, rfl, hg1, hg2⟩ := owns_some ho4 (by simp)
    have hkind := hidMove hkind (Fr.ofBelow (S := fun _ => False) hb4) id
    have hb14 : Below w1.heap.size w1 w4 := HBW.out.trans (hb4.mono HBW.out.size)
    have hxa := hidMove hxa (Fr.ofBelow (S := fun _ => False) hb14) id
    have hz4 : w1.heap.size + 2 ≤ w4.heap.size := by have := hb4.size; simp at this; omega
    have hg3 : w1.heap.size + 2 ≤ g := by simpa using hg1
    have hI := Wi.start (lo := w4.heap.size) hw1 (newW_ok (m := 4096) (by decide) (by decide)) hb14 (by omega) (Nat.le_refl _)
    have hox : ¬ Out (fun k => k = w.heap.size + 1) w4.heap.size w.heap.size := fun h => by rcases h with h | h <;> omega
    have hok : ¬ Out (fun k => k = w.heap.size + 1) w4.heap.size w1.heap.size := fun h => by rcases h with h | h <;> omega
    have hog : ¬ Out (fun k => k = w.heap.size + 1) w4.heap.size g := fun h => by rcases h with h | h <;> omega
    obtain ⟨n0, n1, n2, n3, n4, n5, n6, n7, n8, n9⟩ := box10 hxa
    have hk0 := cellOf hkind.out 0
    have hnums : NumsAt w4 [⟨w.heap.size, 0, none⟩, ⟨w1.heap.size, 0, none⟩, ⟨w.heap.size, 1, none⟩, ⟨w.heap.size, 2, none⟩, ⟨w.heap.size, 3, none⟩, ⟨w.heap.size, 4, none⟩] [c.xid, 0, c.rpc, c.prog, c.vers, c.proc] := by
      refine ⟨rfl, fun j hj => ?_⟩
      match j, hj with
      | 0, _ => exact n0
      | 1, _ => exact hk0
      | 2, _ => exact n1
      | 3, _ => exact n2
      | 4, _ => exact n3
      | 5, _ => exact n4
    have hpout : ∀ j, j < ([⟨w.heap.size, 0, none⟩, ⟨w1.heap.size, 0, none⟩, ⟨w.heap.size, 1, none⟩, ⟨w.heap.size, 2, none⟩, ⟨w.heap.size, 3, none⟩, ⟨w.heap.size, 4, none⟩] : List Addr).length → ¬ Out (fun k => k = w.heap.size + 1) w4.heap.size (([⟨w.heap.size, 0, none⟩, ⟨w1.heap.size, 0, none⟩, ⟨w.heap.size, 1, none⟩, ⟨w.heap.size, 2, none⟩, ⟨w.heap.size, 3, none⟩, ⟨w.heap.size, 4, none⟩] : List Addr).getD j default).block := by
      intro j hj
      match j, hj with
      | 0, _ => exact hox
      | 1, _ => exact hok
      | 2, _ => exact hox
      | 3, _ => exact hox
      | 4, _ => exact hox
      | 5, _ => exact hox
    have HO := Lib.hid ho4
    have HN := Lib.hid hnums
    have HPO := Lib.hid hpout
    clear ho4 hnums hpout n0 n1 n2 n3 n4 n5 n6 n7 n8 n9 hk0
    go_wp2_with fail
    refine (lay_any hI _ _ (by simp) HO.out hog HN.out HPO.out).mono ?_
    rintro e w5 ⟨rfl, hI, hk5⟩
    have hxa := hidMove hxa hk5 hox
    obtain ⟨n0, n1, n2, n3, n4, n5, n6, n7, n8, n9⟩ := box10 hxa
    go_wp2_with fail
    refine (layAuth_any hI c.cred h1).mono ?_
    rintro e w6 ⟨rfl, hI, hk6⟩
    have hxa := hidMove hxa hk6 hox
    obtain ⟨n0, n1, n2, n3, n4, n5, n6, n7, n8, n9⟩ := box10 hxa
    go_wp2_with fail
    refine (layAuth_any hI c.verf h2).mono ?_
    rintro e w7 ⟨rfl, hI, hk7⟩
    have hxa := hidMove hxa hk7 hox
    obtain ⟨n0, n1, n2, n3, n4, n5, n6, n7, n8, n9⟩ := box10 hxa
    go_wp2_with fail
    refine (hI.raw c.args h3).mono ?_
    rintro e w8 ⟨rfl, hI, hk8⟩
    have hfw : Fr (fun _ => False) w w8 := (((Fr.refl _ _).alloc _).then hf1 (fun _ _ h => h)).then hI.fr (fun i hi e => by omega)
    have HG8 := Lib.hid (HG.out.fr hfw id)
    go_wp2_with fail
    refine (mdone_any hI _ HG8.out).mono ?_
    rintro e w9 ⟨rfl, hf9⟩
    go_wp2_with fail
    go_ret2
    exact ⟨rfl, hfw.then hf9 (fun _ _ h => h)⟩

end Go.Proofs.YtlcjfafmmoncpaaGreatDoor
