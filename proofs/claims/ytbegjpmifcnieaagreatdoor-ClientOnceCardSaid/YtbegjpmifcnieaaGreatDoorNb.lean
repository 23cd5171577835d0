/- The document's messages (callboxref12): how a call is laid down. -/
import Derived.Test.YtbegjpmifcnieaaGreatDoorNa
import Derived.Test.YtbegjpmifcnieaaGreatDoorPw
namespace Go.Proofs.YtbegjpmifcnieaaGreatDoor
open Go.RowKit
set_option linter.unusedVariables false
set_option linter.unusedSimpArgs false

/-- the document's Writer, made since w0, and boxes beside it. -/
structure RBo (w0 : World) (b : Nat) (B : List (Nat × Obj)) (w : World) (st : WSt) : Prop where
  wr : RWr w b st
  fr : Fr (fun _ => False) w0 w
  box : ∀ p ∈ B, w.heap[p.1]? = some p.2 ∧ p.1 ≠ b
  new : w0.heap.size ≤ b
theorem RBo.step {w0 w w' : World} {b : Nat} {B : List (Nat × Obj)} {st st' : WSt} (h : RBo w0 b B w st) (hf : Fr (fun k => k = b) w w') (hw : RWr w' b st') : RBo w0 b B w' st' :=
  ⟨hw, h.fr.then hf (fun i hi e => by have := h.new; omega), fun p hp => ⟨(hf.block _ (lt_of_block (h.box p hp).1) (h.box p hp).2).trans (h.box p hp).1, (h.box p hp).2⟩, h.new⟩
theorem RBo.stay {w0 w w' : World} {b : Nat} {B : List (Nat × Obj)} {st : WSt} (h : RBo w0 b B w st) (hf : Fr (fun _ => False) w w') : RBo w0 b B w' st :=
  ⟨h.wr.fr hf id, h.fr.then hf (fun _ _ h => h), fun p hp => ⟨(hf.block _ (lt_of_block (h.box p hp).1) id).trans (h.box p hp).1, (h.box p hp).2⟩, h.new⟩
theorem RBo.more {w0 w : World} {b : Nat} {B : List (Nat × Obj)} {st : WSt} (h : RBo w0 b B w st) (o : Obj) : RBo w0 b ((w.heap.size, o) :: B) (w.alloc o) st := by
  have h2 := h.stay (w' := w.alloc o) ((Fr.refl _ _).alloc o)
  refine ⟨h2.wr, h2.fr, fun p hp => ?_, h2.new⟩
  rcases List.mem_cons.1 hp with rfl | hp
  · exact ⟨heap_alloc_new w o, by have := h.wr.lt; simp; omega⟩
  · exact h2.box p hp
theorem RBo.at0 {w0 w : World} {b k : Nat} {o : Obj} {B : List (Nat × Obj)} {st : WSt} (h : RBo w0 b ((k, o) :: B) w st) : w.heap[k]? = some o := (h.box (k, o) (List.mem_cons_self ..)).1
theorem RBo.at1 {w0 w : World} {b k : Nat} {o : Obj} {p : Nat × Obj} {B : List (Nat × Obj)} {st : WSt} (h : RBo w0 b (p :: (k, o) :: B) w st) : w.heap[k]? = some o := (h.box (k, o) (List.mem_cons_of_mem _ (List.mem_cons_self ..))).1

theorem body_size {st : WSt} (h : WOk st) : st.body.size ≤ 1099511627776 := by
  have := h.size; have := h.2
  unfold WSt.body; split
  · omega
  · exact Nat.zero_le _
theorem rauth_any {b : Nat} {st : WSt} (a : AuthM) (w : World) (h : RWr w b st) (hs : a.body.size ≤ 140737488351232) :
    Calls Tryz.prog 119 #[.pointer (some ⟨b, 0, none⟩), .agg #[.int .i64 a.flavor, .string a.body]] w fun r w' => r = .returned (.tuple #[]) ∧ Fr (fun k => k = b) w w' ∧ RWr w' b (st.auth a) := by
  have h1 := h.fr ((Fr.refl (fun _ => False) w).alloc (.cells #[.int .i64 a.flavor, .string a.body] 43)) id
  have hx := Lib.hid (heap_alloc_new w (.cells #[.int .i64 a.flavor, .string a.body] 43))
  have hlt := h.lt
  unfold WSt.auth
  go_enter Tryz.func119, Tryz.ntmps119
  go_wp2_with fail
  refine (rUint_any _ _ h1).mono ?_
  rintro e w2 ⟨rfl, hf2, h2⟩
  have hx2 := hidMove hx hf2 (by omega)
  obtain ⟨x0, x1, _, _⟩ := box2 hx2
  go_wp2_with fail
  refine (rOpaque_any _ _ _ h2 hs).mono ?_
  rintro e w3 ⟨rfl, hf3, h3⟩
  go_wp2
  go_end0
  exact ⟨rfl, ((Fr.refl _ _).alloc _).trans (hf2.trans hf3), h3⟩

def callWords (c : CallM) : List Int := [c.xid, 0, c.rpc, c.prog, c.vers, c.proc]
def rPrintCallM (c : CallM) : ByteArray × Int := if callMayB c = true then (((((newW 4096).uints (callWords c)).auth c.cred).auth c.verf).body ++ c.args, 0) else (ByteArray.empty, 120)

theorem words_cell {w : World} {g : Nat} {c : CallM} (h : w.heap[g]? = some (.cells #[.int .i64 c.xid, .int .i64 0, .int .i64 c.rpc, .int .i64 c.prog, .int .i64 c.vers, .int .i64 c.proc] 3 (0, 0))) {k : Nat} (hk : k < 6) : w.cell? ⟨g, k, none⟩ = some (.int .i64 ((callWords c).getD k 0)) := by
  rcases (by omega : k = 0 ∨ k = 1 ∨ k = 2 ∨ k = 3 ∨ k = 4 ∨ k = 5) with rfl | rfl | rfl | rfl | rfl | rfl
  · exact cellOf h 0
  · exact cellOf h 1
  · exact cellOf h 2
  · exact cellOf h 3
  · exact cellOf h 4
  · exact cellOf h 5

set_option maxRecDepth 100000 in
set_option maxHeartbeats 4000000 in
theorem rPrintCall_any (c : CallM) (w : World) (h1 : c.cred.body.size ≤ 140737488351232) (h2 : c.verf.body.size ≤ 140737488351232) (h3 : c.args.size ≤ 140737488351232) :
    Calls Tryz.prog 45 #[.agg (callCells c)] w fun r w' => r = .returned (.tuple #[.string (rPrintCallM c).1, .int .i64 (rPrintCallM c).2]) ∧ Fr (fun _ => False) w w' := by
  have hx := Lib.hid (heap_alloc_new w (.cells (callCells c) 85))
  have HM := Lib.hid (fun w => CallMay_any c w h1 h2 h3)
  have HS := Lib.hid (show _ ∧ _ from ⟨h1, h2⟩)
  unfold rPrintCallM
  generalize callMayB c = ok at HM ⊢
  unfold callCells at *
  clear h1 h2
  cases ok with
  | false =>
    go_enter Tryz.func45, Tryz.ntmps45
    go_wp2_with fail
    refine (HM.out _).mono ?_
    rintro e w1 ⟨rfl, hf1⟩
    go_wp2
    go_ret2
    exact ⟨rfl, ((Fr.refl _ _).alloc _).then hf1 (fun _ _ h => h)⟩
  | true =>
    go_enter Tryz.func45, Tryz.ntmps45
    go_wp2_with fail
    refine (HM.out _).mono ?_
    rintro e w1 ⟨rfl, hf1⟩
    clear HM
    replace hx := hidMove hx hf1 id
    have hf := ((Fr.refl _ _).alloc _).then hf1 (fun _ _ h => h)
    go_wp2_with fail
    refine (rNew_any 4096 _ (by decide)).mono ?_
    rintro e w2 ⟨rfl, hf2, hw2⟩
    have e4 : max (4096 : Int) 0 = 4096 := by decide
    rw [e4] at hw2
    clear e4
    have hlt : w.heap.size < w1.heap.size := lt_of_block hx.out
    have hb : RBo w w1.heap.size [(w.heap.size, (Obj.cells #[.int .i64 c.xid, .int .i64 c.rpc, .int .i64 c.prog, .int .i64 c.vers, .int .i64 c.proc, .int .i64 c.cred.flavor, .string c.cred.body, .int .i64 c.verf.flavor, .string c.verf.body, .string c.args] 85 (0, 0)))] w2 (newW 4096) :=
      ⟨hw2, hf.then hf2 (fun _ _ h => h), fun p hp => by rw [List.mem_singleton.1 hp]; exact ⟨(hidMove hx hf2 id).out, by show w.heap.size ≠ w1.heap.size; omega⟩, by omega⟩
    have HB := Lib.hid (hb.more (Obj.cells #[.int .i64 c.xid, .int .i64 0, .int .i64 c.rpc, .int .i64 c.prog, .int .i64 c.vers, .int .i64 c.proc] 3 (0, 0)))
    obtain ⟨n0, n1, n2, n3, n4, n5, n6, n7, n8, n9⟩ := box10 (Lib.hid (hb.at0))
    have hl2 : w.heap.size < w2.heap.size := lt_of_block hb.at0
    clear hb hf2 hw2 hf hf1 hx
    go_wp2_with fail
    clear n0 n1 n2 n3 n4 n5 n6 n7 n8 n9
    go_loopw [7] (fun i wr => ∃ k : Nat, k ≤ 6 ∧ i = .int .i64 k ∧ Hid (RBo w w1.heap.size ((w2.heap.size, (Obj.cells #[.int .i64 c.xid, .int .i64 0, .int .i64 c.rpc, .int .i64 c.prog, .int .i64 c.vers, .int .i64 c.proc] 3 (0, 0))) :: [(w.heap.size, (Obj.cells #[.int .i64 c.xid, .int .i64 c.rpc, .int .i64 c.prog, .int .i64 c.vers, .int .i64 c.proc, .int .i64 c.cred.flavor, .string c.cred.body, .int .i64 c.verf.flavor, .string c.verf.body, .string c.args] 85 (0, 0)))]) wr ((newW 4096).uints ((callWords c).take k)))) (fun i _ => 6 - (intOf i).toNat)
    case atStart => exact ⟨0, by omega, rfl, HB⟩
    case round => as_aux_lemma =>
      clear HB
      obtain ⟨k, hkk, rfl, HB⟩ := hrel
      by_cases hlt : k < 6
      · have hcell := words_cell HB.out.at0 hlt
        have hs := uints_succ (newW 4096) (callWords c) k hlt
        generalize (callWords c).getD k 0 = x at hcell hs
        have hgl : w2.heap.size < wr.heap.size := lt_of_block HB.out.at0
        have HS2 := Lib.hid hs
        clear hs
        go_wp2_with fail
        refine (rUint_any _ _ HB.out.wr).mono ?_
        rintro e w6 ⟨rfl, hf6, h6⟩
        have HB6 := Lib.hid (HB.out.step hf6 h6)
        clear hf6 h6 HB hcell
        go_wp2
        exact ⟨⟨k + 1, by omega, by go_num, by rw [HS2.out]; exact HB6⟩, by simp [intOf]; omega⟩
      · have hk2 : (callWords c).take k = callWords c := List.take_of_length_le (by simp [callWords]; omega)
        rw [hk2] at HB
        clear hk2
        obtain ⟨n0, n1, n2, n3, n4, n5, n6, n7, n8, n9⟩ := box10 (Lib.hid (HB.out.at1))
        have hl2 : w.heap.size < wr.heap.size := lt_of_block HB.out.at1
        go_wp2_with fail
        refine (rauth_any c.cred _ HB.out.wr HS.out.1).mono ?_
        rintro e w6 ⟨rfl, hf6, h6⟩
        replace HB := Lib.hid (HB.out.step hf6 h6)
        clear hf6 h6 n0 n1 n2 n3 n4 n5 n6 n7 n8 n9 hl2
        obtain ⟨n0, n1, n2, n3, n4, n5, n6, n7, n8, n9⟩ := box10 (Lib.hid (HB.out.at1))
        have hl2 : w.heap.size < w6.heap.size := lt_of_block HB.out.at1
        go_wp2_with fail
        refine (rauth_any c.verf _ HB.out.wr HS.out.2).mono ?_
        rintro e w7 ⟨rfl, hf6, h6⟩
        replace HB := Lib.hid (HB.out.step hf6 h6)
        clear hf6 h6 n0 n1 n2 n3 n4 n5 n6 n7 n8 n9 hl2
        go_wp2_with fail
        refine (rDone_any _ HB.out.wr).mono ?_
        rintro e w8 ⟨rfl, hf6⟩
        replace HB := Lib.hid (HB.out.stay hf6)
        clear hf6
        obtain ⟨n0, n1, n2, n3, n4, n5, n6, n7, n8, n9⟩ := box10 (Lib.hid (HB.out.at1))
        have hl2 : w.heap.size < w8.heap.size := lt_of_block HB.out.at1
        have hbs := body_size HB.out.wr.ok
        go_wp2
        go_ret2
        exact ⟨rfl, HB.out.fr⟩
end Go.Proofs.YtbegjpmifcnieaaGreatDoor

/- Messages: the plain law of printing a call. -/
namespace Go.Proofs.YtbegjpmifcnieaaGreatDoor
open Go.RowKit
set_option linter.unusedVariables false
set_option linter.unusedSimpArgs false

theorem lays_e {st : WSt} {s : ByteArray} (h : st.e ≠ 0) : (st.lays s).e ≠ 0 := by unfold WSt.lays; rw [if_neg h]; exact h
theorem uint_e {st : WSt} {n : Int} (h : st.e ≠ 0) : (st.uint n).e ≠ 0 := by
  unfold WSt.uint; split
  · exact lays_e h
  · exact lays_e (by rw [fail_twice h]; exact h)
theorem uint_bad {st : WSt} {n : Int} (h : ¬ isWordB n = true) : (st.uint n).e ≠ 0 := by
  unfold WSt.uint; rw [if_neg h]; exact lays_e (fail_ne (by decide))
theorem opq_e {st : WSt} {m : Int} {s : ByteArray} (h : st.e ≠ 0) : (st.opq m s).e ≠ 0 := by
  unfold WSt.opq; split
  · split
    · rw [fail_twice h]; exact h
    · exact lays_e h
  · rw [fail_twice h]; exact h
theorem opq_bad {st : WSt} {m : Int} {s : ByteArray} (h : m < s.size) : (st.opq m s).e ≠ 0 := by
  unfold WSt.opq; split
  · rw [if_pos (.inl h)]; exact fail_ne (by decide)
  · exact fail_ne (by decide)
theorem auth_e {st : WSt} {a : AuthM} (h : st.e ≠ 0) : (st.auth a).e ≠ 0 := opq_e (uint_e h)
theorem auth_bad {st : WSt} {a : AuthM} (h : ¬ authMayB a = true) : (st.auth a).e ≠ 0 := by
  unfold WSt.auth
  by_cases h1 : isWordB a.flavor = true
  · refine opq_bad ?_
    unfold authMayB at h
    rw [h1, Bool.true_and, decide_eq_true_eq] at h
    omega
  · exact opq_e (uint_bad h1)
theorem raw_e {st : WSt} {s : ByteArray} (h : st.e ≠ 0) : (st.raw s).e ≠ 0 := by
  unfold WSt.raw; split
  · exact lays_e h
  · exact lays_e (by rw [fail_twice h]; exact h)
theorem uints_e (l : List Int) {st : WSt} (h : st.e ≠ 0) : (st.uints l).e ≠ 0 := by
  induction l generalizing st with
  | nil => exact h
  | cons n l ih => exact ih (uint_e h)
theorem uints_bad (l : List Int) {st : WSt} {n : Int} (hn : n ∈ l) (h : ¬ isWordB n = true) : (st.uints l).e ≠ 0 := by
  induction l generalizing st with
  | nil => cases hn
  | cons m l ih =>
    rcases List.mem_cons.1 hn with rfl | hn
    · exact uints_e l (uint_bad h)
    · exact ih hn
theorem w_raw {st : WSt} (s : ByteArray) (he : st.e = 0) (h4 : s.size % 4 = 0) (h : (st.out.size + s.size : Int) ≤ st.most) : st.raw s = { st with out := st.out ++ s } := by
  unfold WSt.raw; rw [if_pos h4]; exact w_lays s he h

def authStr (a : AuthM) : ByteArray := numStr a.flavor 4 ++ (numStr a.body.size 4 ++ padStr a.body)
theorem authMay_iff {a : AuthM} : authMayB a = true ↔ isWordB a.flavor = true ∧ (a.body.size : Int) ≤ 400 := by simp [authMayB]
theorem pad400 (s : ByteArray) (h : s.size ≤ 400) : (padStr s).size ≤ 400 := by rw [padStr_size]; unfold padN; omega
theorem authStr_size {a : AuthM} (h : authMayB a = true) : (authStr a).size ≤ 408 ∧ (authStr a).size % 4 = 0 := by
  have h2 := (authMay_iff.1 h).2
  have := pad400 a.body (by omega)
  have := (pad_size a.body).1
  unfold authStr
  rw [ByteArray.size_append, ByteArray.size_append, numStr_size, numStr_size]
  omega
theorem w_auth {st : WSt} (a : AuthM) (he : st.e = 0) (ha : authMayB a = true) (h : (st.out.size + 408 : Int) ≤ st.most) : st.auth a = { st with out := st.out ++ authStr a } := by
  obtain ⟨h1, h2⟩ := authMay_iff.1 ha
  have h3 := pad400 a.body (by omega)
  unfold WSt.auth
  rw [w_uint a.flavor he h1 (by omega), w_opq (st := { st with out := st.out ++ numStr a.flavor 4 }) 400 a.body he (by decide) h2 (by simp only [ByteArray.size_append, numStr_size]; omega)]
  simp [authStr, ByteArray.append_assoc]

def callStr (c : CallM) : ByteArray := wordsStr (callWords c) ++ (authStr c.cred ++ (authStr c.verf ++ c.args))
theorem callMay_iff {c : CallM} : callMayB c = true ↔ (isWordB c.xid = true ∧ isWordB c.prog = true ∧ isWordB c.vers = true ∧ isWordB c.proc = true ∧ authMayB c.cred = true ∧ authMayB c.verf = true ∧ fitsB c.args = true ∧ c.rpc = 2) := by
  simp [callMayB, and_assoc]
theorem fits_iff {s : ByteArray} : fitsB s = true ↔ s.size ≤ 1000 ∧ s.size % 4 = 0 := by
  simp [fitsB]; omega
theorem callWords_ok {c : CallM} (h : callMayB c = true) : ∀ n ∈ callWords c, isWordB n = true := by
  obtain ⟨h1, h2, h3, h4, _, _, _, h8⟩ := callMay_iff.1 h
  intro n hn
  simp only [callWords, List.mem_cons, List.not_mem_nil, or_false] at hn
  rcases hn with rfl | rfl | rfl | rfl | rfl | rfl
  · exact h1
  · rfl
  · rw [h8]; rfl
  · exact h2
  · exact h3
  · exact h4
theorem call_heads {c : CallM} (h : callMayB c = true) : (((newW 4096).uints (callWords c)).auth c.cred).auth c.verf = ⟨wordsStr (callWords c) ++ (authStr c.cred ++ authStr c.verf), 4096, 0⟩ := by
  obtain ⟨_, _, _, _, h5, h6, _, _⟩ := callMay_iff.1 h
  have k1 := authStr_size h5
  rw [w_uints (callWords c) rfl (callWords_ok h) (by simp [newW, callWords])]
  rw [w_auth c.cred (by rfl) h5 (by simp [newW, wordsStr_size, callWords])]
  rw [w_auth c.verf (by rfl) h6 (by simp only [newW, ByteArray.size_append, wordsStr_size, callWords]; simp; omega)]
  simp [newW, ByteArray.append_assoc]
theorem printCall_yes {c : CallM} (h : callMayB c = true) : printCallM c = (callStr c, 0) ∧ rPrintCallM c = (callStr c, 0) := by
  obtain ⟨_, _, _, _, h5, h6, h7, h8⟩ := callMay_iff.1 h
  have k1 := authStr_size h5
  have k2 := authStr_size h6
  have k7 := fits_iff.1 h7
  refine ⟨?_, ?_⟩
  · unfold printCallM WSt.call
    have e := call_heads h
    unfold callWords at e
    rw [e, w_raw c.args rfl k7.2 (by simp only [ByteArray.size_append, wordsStr_size]; simp; omega), h7, h8]
    simp [doneM, callStr, callWords, ByteArray.append_assoc, h8]
  · unfold rPrintCallM
    rw [if_pos h, call_heads h]
    simp [WSt.body, callStr, ByteArray.append_assoc]
theorem printCall_no {c : CallM} (h : ¬ callMayB c = true) : printCallM c = (ByteArray.empty, 120) ∧ rPrintCallM c = (ByteArray.empty, 120) := by
  refine ⟨?_, by unfold rPrintCallM; rw [if_neg h]⟩
  unfold printCallM doneM
  refine if_neg ?_
  rintro ⟨h1, h2⟩
  simp only [Bool.and_eq_true, beq_iff_eq] at h2
  refine h (callMay_iff.2 ?_)
  have key : ∀ p : Prop, (¬ p → ((newW 4096).call c).e ≠ 0) → p := fun p hp => Classical.byContradiction fun hn => hp hn h1
  have words : ∀ n ∈ [c.xid, 0, c.rpc, c.prog, c.vers, c.proc], isWordB n = true := fun n hn => key _ (fun hb => raw_e (auth_e (auth_e (uints_bad _ hn hb))))
  exact ⟨words _ (by simp), words _ (by simp), words _ (by simp), words _ (by simp), key _ (fun hb => raw_e (auth_e (auth_bad hb))), key _ (fun hb => raw_e (auth_bad hb)), h2.2, h2.1⟩
theorem printCall_same (c : CallM) : rPrintCallM c = printCallM c := by
  by_cases h : callMayB c = true
  · rw [(printCall_yes h).1, (printCall_yes h).2]
  · rw [(printCall_no h).1, (printCall_no h).2]
end Go.Proofs.YtbegjpmifcnieaaGreatDoor
