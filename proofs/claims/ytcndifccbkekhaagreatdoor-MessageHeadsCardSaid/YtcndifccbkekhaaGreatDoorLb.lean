/- callboxlaw12: numbers that are picked, texts that are cut or bent. -/
import Derived.Test.YtcndifccbkekhaaGreatDoorRm
import Derived.Laws.IdiomStrings
import Derived.Lib.SlBytesRow
import Derived.Test.YtcndifccbkekhaaGreatDoorNf
namespace Go.Proofs.YtcndifccbkekhaaGreatDoor
open Go.RowKit
set_option linter.unusedVariables false
set_option linter.unusedSimpArgs false

def pickM (c n : Int) : Int := (if c < 0 then -(c + 1) else c) % n
theorem pickM_range (c n : Int) (hn : 0 < n) : 0 ≤ pickM c n ∧ pickM c n < n := ⟨Int.emod_nonneg _ (by omega), Int.emod_lt_of_pos _ hn⟩
def fourN (k : Nat) : Nat := min k 1000 - min k 1000 % 4
def fourM (s : ByteArray) : ByteArray := s.extract 0 (fourN s.size)
theorem fourN_le (k : Nat) : fourN k ≤ k ∧ fourN k ≤ 1000 ∧ fourN k % 4 = 0 := by unfold fourN; omega
theorem fourM_size (s : ByteArray) : (fourM s).size = fourN s.size := by
  have := (fourN_le s.size).1
  unfold fourM
  rw [ByteArray.size_extract]
  omega
def InI (n : Int) : Prop := -9223372036854775808 ≤ n ∧ n ≤ 9223372036854775807
theorem pick_any (c n : Int) (w : World) (hc : InI c) (h0 : 0 < n) (h1 : n ≤ 9223372036854775807) :
    Calls Tryz.prog 39 #[.int .i64 c, .int .i64 n] w fun r w' => r = .returned (.int .i64 (pickM c n)) ∧ w = w' := by
  unfold InI at hc
  by_cases h : c < 0
  · have e : pickM c n = (-(c + 1)) % n := by unfold pickM; rw [if_pos h]
    have e2 : Int.tmod (-(c + 1)) n = (-(c + 1)) % n := Int.tmod_eq_emod_of_nonneg (by omega)
    rw [e]
    go_enter Tryz.func39, Tryz.ntmps39
    go_wp2
    go_ret
    exact ⟨rfl, rfl⟩
  · have e : pickM c n = c % n := by unfold pickM; rw [if_neg h]
    have e2 : Int.tmod c n = c % n := Int.tmod_eq_emod_of_nonneg (by omega)
    have h' := Int.not_lt.1 h
    rw [e]
    go_enter Tryz.func39, Tryz.ntmps39
    go_wp2
    go_ret
    exact ⟨rfl, rfl⟩
theorem four_any (s : ByteArray) (w : World) (hs : s.size ≤ 140737488351232) :
    Calls Tryz.prog 42 #[.string s, .int .i64 1000] w fun r w' => r = .returned (.string (fourM s)) ∧ w = w' := by
  by_cases hm : s.size ≤ 1000
  · have e1 : min (s.size : Int) 1000 = s.size := by omega
    have e : fourM s = s.extract 0 (s.size - s.size % 4) := by unfold fourM fourN; rw [Nat.min_eq_left hm]
    rw [e]
    go_enter Tryz.func42, Tryz.ntmps42
    go_wp2
    go_ret
    exact ⟨rfl, rfl⟩
  · have e1 : min (s.size : Int) 1000 = 1000 := by omega
    have h1 : (1000 : Int) ≤ (s.size : Int) := by omega
    have e : fourM s = s.extract 0 1000 := by unfold fourM fourN; rw [Nat.min_eq_right (by omega)]
    rw [e]
    clear hm
    go_enter Tryz.func42, Tryz.ntmps42
    go_wp2
    go_ret
    exact ⟨rfl, rfl⟩
theorem bent_is (s : ByteArray) (k : Nat) (v : Int) (hv : 0 ≤ v ∧ v < 256) (w : World) (b : Nat) (hb : Lib.Bytes w b 0 s) (hk : k < s.size) :
    ∃ s' : ByteArray, s'.size = s.size ∧ Lib.Bytes (w.setCell ⟨b, k, none⟩ (.int .u8 v)) b 0 s' := by
  refine ⟨⟨s.data.set k (UInt8.ofNat v.toNat) hk⟩, by show (s.data.set k _ hk).size = s.data.size; simp, fun i hi => ?_⟩
  have hi' : i < s.size := by
    have : (s.data.set k (UInt8.ofNat v.toNat) hk).size = s.data.size := by simp
    have h2 : i < (s.data.set k (UInt8.ofNat v.toNat) hk).size := hi
    rw [this] at h2
    exact h2
  have hc := hb i hi'
  rw [Nat.zero_add] at hc ⊢
  by_cases e : k = i
  · subst e
    have h1 : (w.setCell ⟨b, k, none⟩ (.int .u8 v)).cell? ⟨b, k, none⟩ = some (.int .u8 v) := World.cell?_setCell_same _ _ _ hc
    rw [h1]
    have h2 : (ByteArray.mk (s.data.set k (UInt8.ofNat v.toNat) hk))[k] = UInt8.ofNat v.toNat := by
      show (s.data.set k (UInt8.ofNat v.toNat) hk)[k] = _
      simp
    rw [h2]
    have h3 : ((UInt8.ofNat v.toNat).toNat : Int) = v := by
      have : v.toNat < 256 := by omega
      simp [Nat.mod_eq_of_lt this]
      omega
    rw [h3]
  · have h1 : (w.setCell ⟨b, k, none⟩ (.int .u8 v)).cell? ⟨b, i, none⟩ = w.cell? ⟨b, i, none⟩ := World.cell?_setCell_other _ _ _ _ (by simp [e])
    rw [h1, hc]
    have h2 : (ByteArray.mk (s.data.set k (UInt8.ofNat v.toNat) hk))[i] = s[i] := by
      show (s.data.set k (UInt8.ofNat v.toNat) hk)[i] = s.data[i]
      rw [Array.getElem_set_ne _ _ (by omega)]
    rw [h2]

set_option maxRecDepth 100000 in
set_option maxHeartbeats 8000000 in
theorem bent_any (s : ByteArray) (at1 by1 : Int) (w : World) (hs : s.size ≤ 140737488351232) (ha : InI at1) (hb : InI by1) :
    Calls Tryz.prog 38 #[.string s, .int .i64 at1, .int .i64 by1] w fun r w' => (∃ s' : ByteArray, s'.size = s.size ∧ r = .returned (.string s')) ∧ Fr (fun _ => False) w w' := by
  by_cases h0 : s.size = 0
  · have he : s.toList.isEmpty = true := by rw [isEmpty_size]; simp [h0]
    go_enter Tryz.func38, Tryz.ntmps38
    go_wp2
    go_ret
    exact ⟨⟨s, rfl, rfl⟩, Fr.refl _ _⟩
  · have he : s.toList.isEmpty = false := by rw [isEmpty_size]; simp [h0]
    have hcv := run_bytes_of_string (P := Tryz.prog) w 9 76 5 s Tryz.underlying9 Tryz.underlying76 Tryz.underlying5
    generalize hW : w.drew.alloc (.cells (bytesRow s (grownCap w s.size 0 5)) 5 ((bytesRow s (grownCap w s.size 0 5)).size, (bytesRow s (grownCap w s.size 0 5)).size + 1)) = W at hcv
    generalize grownCap w s.size 0 5 = cap at hcv hW
    have hh : W.heap[w.heap.size]? = some (.cells (bytesRow s cap) 5 ((bytesRow s cap).size, (bytesRow s cap).size + 1)) := by rw [← hW]; exact heap_alloc_new w.drew _
    have hF : Fr (fun _ => False) w W := by rw [← hW]; exact ((Fr.refl _ _).drew).alloc _
    have hn : (bytesRow s cap).size = s.size + (cap - s.size) := by simp [bytesRow]
    have hc : ∀ i (h : i < s.size), W.cell? ⟨w.heap.size, i, none⟩ = some (.int .u8 (s[i].toNat : Int)) := fun i h => by
      have e : W.cell? ⟨w.heap.size, i, none⟩ = (bytesRow s cap)[i]? := by simp [World.cell?, hh]
      rw [e]
      unfold bytesRow
      rw [Array.getElem?_append_left (by simpa using h)]
      simp [h]; rfl
    have hfz : ∀ i, i < s.size → W.frozen? ⟨w.heap.size, i, none⟩ = false := fun i h => by simp [World.frozen?, hh]; omega
    have hk := pickM_range at1 s.size (by omega)
    have hP := pick_any at1 s.size W ha (by omega) (by omega)
    have hlt := lt_of_block hh
    clear hh hW hn
    go_enter Tryz.func38, Tryz.ntmps38
    go_wp2_with fail
    refine hP.mono ?_
    rintro e w1 ⟨rfl, rfl⟩
    generalize pickM at1 s.size = p at hk
    obtain ⟨k, rfl⟩ : ∃ k : Nat, p = (k : Int) := ⟨p.toNat, by omega⟩
    have hkl : k < s.size := by omega
    have hck := hc k hkl
    have hfk := hfz k hkl
    have hv : 0 ≤ by1 % 256 ∧ by1 % 256 < 256 := by omega
    obtain ⟨s', hs1, hs2⟩ := bent_is s k (by1 % 256) hv W w.heap.size (fun i h => by rw [Nat.zero_add]; exact hc i h) hkl
    have hcv2 := Lib.run_convert_whole (P := Tryz.prog) _ 76 5 9 Tryz.underlying76 Tryz.underlying5 Tryz.underlying9 w.heap.size 0 s' hs2 cap
    rw [hs1] at hcv2
    clear hc hfz hs2 hcv
    go_wp2
    go_ret
    exact ⟨⟨s', hs1, rfl⟩, hF.setCell (.inr (Nat.le_refl _)) _⟩
end Go.Proofs.YtcndifccbkekhaaGreatDoor

/- callboxlaw12: the plain law: what a call and a reply that may be are read as; what is read is printed as it was. -/
namespace Go.Proofs.YtcndifccbkekhaaGreatDoor
open Go.RowKit
set_option linter.unusedVariables false
set_option linter.unusedSimpArgs false

theorem pick_word (c : Int) : isWordB (pickM c 4294967296) = true := by
  have := pickM_range c 4294967296 (by decide)
  exact isWordB_iff.2 ⟨this.1, by omega⟩
theorem four_fits (s : ByteArray) : fitsB (fourM s) = true := by
  have := fourN_le s.size
  rw [fits_iff, fourM_size]
  exact ⟨this.2.1, this.2.2⟩
def authPM (a : AuthM) : AuthM := ⟨pickM a.flavor 4294967296, a.body.extract 0 (min a.body.size 400)⟩
theorem authP_may (a : AuthM) : authMayB (authPM a) = true := by
  refine authMay_iff.2 ⟨pick_word _, ?_⟩
  show ((a.body.extract 0 (min a.body.size 400)).size : Int) ≤ 400
  rw [ByteArray.size_extract]
  omega
def fittedM (c : CallM) : CallM := ⟨pickM c.xid 4294967296, 2, pickM c.prog 4294967296, pickM c.vers 4294967296, pickM c.proc 4294967296, authPM c.cred, authPM c.verf, fourM c.args⟩
theorem fitted_may (c : CallM) : callMayB (fittedM c) = true :=
  callMay_iff.2 ⟨pick_word _, pick_word _, pick_word _, pick_word _, authP_may _, authP_may _, four_fits _, rfl⟩
def toldM (r : ReplyM) : ReplyM :=
  if r.denied = true then
    (if pickM r.reject 2 = 1 then ⟨pickM r.xid 4294967296, true, zeroAuth, 0, pickM r.reject 2, pickM r.why 15, 0, 0, ByteArray.empty⟩
     else ⟨pickM r.xid 4294967296, true, zeroAuth, 0, pickM r.reject 2, 0, pickM r.low 4294967296, pickM r.high 4294967296, ByteArray.empty⟩)
  else if pickM r.accept 6 = 0 then ⟨pickM r.xid 4294967296, false, authPM r.verf, pickM r.accept 6, 0, 0, 0, 0, fourM r.results⟩
  else if pickM r.accept 6 = 2 then ⟨pickM r.xid 4294967296, false, authPM r.verf, pickM r.accept 6, 0, 0, pickM r.low 4294967296, pickM r.high 4294967296, ByteArray.empty⟩
  else ⟨pickM r.xid 4294967296, false, authPM r.verf, pickM r.accept 6, 0, 0, 0, 0, ByteArray.empty⟩
theorem told_may (r : ReplyM) : replyMayB (toldM r) = true := by
  have h2 := pickM_range r.reject 2 (by decide)
  have h6 := pickM_range r.accept 6 (by decide)
  have h15 := pickM_range r.why 15 (by decide)
  have w0 : isWordB 0 = true := rfl
  have a0 : authMayB zeroAuth = true := rfl
  rw [replyMay_iff]
  unfold toldM
  by_cases hd : r.denied = true
  · rw [if_pos hd]
    by_cases hj : pickM r.reject 2 = 1
    · rw [if_pos hj, hj]
      exact ⟨.inr (.inl ⟨_, _, ⟨h15.1, by omega⟩, rfl⟩), pick_word _, a0, w0, w0⟩
    · rw [if_neg hj, show pickM r.reject 2 = 0 by omega]
      exact ⟨.inl ⟨_, _, _, rfl⟩, pick_word _, a0, pick_word _, pick_word _⟩
  · rw [if_neg hd]
    by_cases h0 : pickM r.accept 6 = 0
    · rw [if_pos h0, h0]
      exact ⟨.inr (.inr (.inl ⟨_, _, _, four_fits _, rfl⟩)), pick_word _, authP_may _, w0, w0⟩
    · rw [if_neg h0]
      by_cases hk : pickM r.accept 6 = 2
      · rw [if_pos hk, hk]
        exact ⟨.inr (.inr (.inr (.inl ⟨_, _, _, _, rfl⟩))), pick_word _, authP_may _, pick_word _, pick_word _⟩
      · rw [if_neg hk]
        exact ⟨.inr (.inr (.inr (.inr ⟨_, _, _, by omega, rfl⟩))), pick_word _, authP_may _, w0, w0⟩

theorem callStr_four {c : CallM} (h : callMayB c = true) : (callStr c).size % 4 = 0 ∧ (callStr c).size ≤ 1840 ∧ 24 ≤ (callStr c).size := by
  obtain ⟨_, _, _, _, h5, h6, h7, _⟩ := callMay_iff.1 h
  have k1 := authStr_size h5
  have k2 := authStr_size h6
  have k7 := fits_iff.1 h7
  unfold callStr
  rw [ByteArray.size_append, ByteArray.size_append, ByteArray.size_append, wordsStr_size]
  simp only [callWords, List.length_cons, List.length_nil]
  omega
theorem replyStr_four {r : ReplyM} (h : replyMayB r = true) : (replyStr r).size % 4 = 0 ∧ (replyStr r).size ≤ 1900 := by
  obtain ⟨hs, _, ha, _, _⟩ := replyMay_iff.1 h
  have k1 := authStr_size ha
  have k3 : (shN r).length ≤ 2 := by unfold shN; rw [List.length_map]; exact shO_len r
  have k7 : r.results.size ≤ 1000 ∧ r.results.size % 4 = 0 := by
    rcases hs with ⟨x, l, h, rfl⟩ | ⟨x, y, hy, rfl⟩ | ⟨x, a, s, hs, rfl⟩ | ⟨x, a, l, h, rfl⟩ | ⟨x, a, k, hk, rfl⟩
    · exact ⟨Nat.zero_le 1000, rfl⟩
    · exact ⟨Nat.zero_le 1000, rfl⟩
    · exact fits_iff.1 hs
    · exact ⟨Nat.zero_le 1000, rfl⟩
    · exact ⟨Nat.zero_le 1000, rfl⟩
  unfold replyStr
  rw [ByteArray.size_append, ByteArray.size_append, ByteArray.size_append, wordsStr_size, wordsStr_size]
  split
  · rw [wordsStr_size]; simp only [List.length_cons, List.length_nil]; omega
  · rw [ByteArray.size_append, wordsStr_size]; simp only [List.length_cons, List.length_nil]; omega
theorem parseReply_call {c : CallM} (h : callMayB c = true) : parseReplyM (callStr c) = (zeroReply, 121) := by
  unfold parseReplyM
  rw [if_neg]
  intro hg
  have h1 := (replyGood_iff.1 hg).2.1
  rw [(callS_print h).2.2.1] at h1
  exact absurd h1 (by decide)
theorem parseCall_reply {r : ReplyM} (h : replyMayB r = true) : parseCallM (replyStr r) = (zeroCall, 121) := by
  have hk := (replyS_print h).2.1
  unfold parseCallM
  rw [if_neg, if_neg]
  · intro hg
    have h1 := (callGood_iff.1 hg).2.1
    rw [hk] at h1
    exact absurd h1 (by decide)
  · rintro ⟨_, h1, _⟩
    rw [hk] at h1
    exact absurd h1 (by decide)
theorem parseCall_err (s : ByteArray) : (parseCallM s).2 = 0 ∨ parseCallM s = (zeroCall, 121) := by
  unfold parseCallM
  split
  · exact .inl rfl
  · split
    · exact .inl rfl
    · exact .inr rfl
theorem parseReply_err (s : ByteArray) : (parseReplyM s).2 = 0 ∨ parseReplyM s = (zeroReply, 121) := by
  unfold parseReplyM
  split
  · exact .inl rfl
  · exact .inr rfl
theorem parseCall_kind {s : ByteArray} (h : (parseCallM s).2 = 0) : (RSt.mk s 0).kind = 0 := by
  unfold parseCallM at h
  split at h
  · rename_i hc; exact hc.2.1
  · split at h
    · rename_i hg; exact (callGood_iff.1 hg).2.1
    · exact absurd h (by decide)
theorem parseReply_kind {s : ByteArray} (h : (parseReplyM s).2 = 0) : (RSt.mk s 0).kind = 1 := by
  unfold parseReplyM at h
  split at h
  · rename_i hg; exact (replyGood_iff.1 hg).2.1
  · exact absurd h (by decide)
theorem not_both {s : ByteArray} (h : (parseCallM s).2 = 0) : parseReplyM s = (zeroReply, 121) := by
  rcases parseReply_err s with h2 | h2
  · have h3 := parseCall_kind h
    rw [parseReply_kind h2] at h3
    exact absurd h3 (by decide)
  · exact h2
theorem call_again {s : ByteArray} (h : (parseCallM s).2 = 0) (h2 : (parseCallM s).1.rpc = 2) : printCallM (parseCallM s).1 = (s, 0) := by
  unfold parseCallM at h h2 ⊢
  by_cases hc : 12 ≤ s.size ∧ (RSt.mk s 0).kind = 0 ∧ (RSt.mk s 0).third ≠ 2
  · rw [if_pos hc] at h2
    exact absurd h2 hc.2.2
  · rw [if_neg hc] at h h2 ⊢
    by_cases hg : callGood s = true
    · rw [if_pos hg] at h2 ⊢
      have := print_parseCall hg h2
      rwa [printCall_same] at this
    · rw [if_neg hg] at h
      exact absurd h (by decide)
theorem reply_again {s : ByteArray} (h : (parseReplyM s).2 = 0) : printReplyM (parseReplyM s).1 = (s, 0) := by
  unfold parseReplyM at h ⊢
  by_cases hg : replyGood s = true
  · rw [if_pos hg]
    obtain ⟨h1, h2⟩ := replyGood_yes hg
    rw [(printReply_yes h1).1, ← h2]
  · rw [if_neg hg] at h
    exact absurd h (by decide)
theorem call_small {c : CallM} (h : callMayB c = true) : c.cred.body.size ≤ 140737488351232 ∧ c.verf.body.size ≤ 140737488351232 ∧ c.args.size ≤ 140737488351232 := by
  obtain ⟨_, _, _, _, h5, h6, h7, _⟩ := callMay_iff.1 h
  have := (authMay_iff.1 h5).2
  have := (authMay_iff.1 h6).2
  have := (fits_iff.1 h7).1
  omega
theorem reply_small {r : ReplyM} (h : replyMayB r = true) : r.verf.body.size ≤ 140737488351232 ∧ r.results.size ≤ 140737488351232 := by
  obtain ⟨hs, _, ha, _, _⟩ := replyMay_iff.1 h
  have h1 := (authMay_iff.1 ha).2
  have h2 : fitsB r.results = true := (mayReply_unf.1 (mayReply_iff.2 hs)).2.2.2.2
  have := (fits_iff.1 h2).1
  omega
theorem call_may {s : ByteArray} (h : (parseCallM s).2 = 0) (h2 : (parseCallM s).1.rpc = 2) : callMayB (parseCallM s).1 = true := by
  refine Classical.byContradiction fun hn => ?_
  have := call_again h h2
  rw [(printCall_no hn).1] at this
  exact absurd (show (120 : Int) = 0 from congrArg Prod.snd this) (by decide)
theorem reply_may {s : ByteArray} (h : (parseReplyM s).2 = 0) : replyMayB (parseReplyM s).1 = true := by
  refine Classical.byContradiction fun hn => ?_
  have := reply_again h
  rw [(printReply_no hn).1] at this
  exact absurd (show (120 : Int) = 0 from congrArg Prod.snd this) (by decide)
theorem print_fitted (c : CallM) : printCallM (fittedM c) = (callStr (fittedM c), 0) := (printCall_yes (fitted_may c)).1
theorem print_told (r : ReplyM) : printReplyM (toldM r) = (replyStr (toldM r), 0) := (printReply_yes (told_may r)).1
end Go.Proofs.YtcndifccbkekhaaGreatDoor
