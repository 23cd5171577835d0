/- A client and the book of its life (ClientOnce): what each step does to both. No program stands here. -/
import Derived.Test.YtbegjpmifcnieaaGreatDoorOa
import Derived.Test.YtbegjpmifcnieaaGreatDoorEo
import Derived.Test.YtbegjpmifcnieaaGreatDoorEk
import Derived.Test.YtbegjpmifcnieaaGreatDoorNf
import Derived.Test.YtbegjpmifcnieaaGreatDoorEi
namespace Go.Proofs.YtbegjpmifcnieaaGreatDoor

theorem inj_of_nodup {α β : Type} (f : α → β) (l : List α) : (l.map f).Nodup → ∀ a ∈ l, ∀ b ∈ l, f a = f b → a = b := by
  induction l with
  | nil => intro _ a ha; cases ha
  | cons c l ih =>
    intro hn a ha b hb e
    rw [List.map_cons, List.nodup_cons] at hn
    rcases List.mem_cons.1 ha with rfl | ha2
    · rcases List.mem_cons.1 hb with rfl | hb2
      · rfl
      · exact absurd (List.mem_map.2 ⟨b, hb2, e.symm⟩) hn.1
    · rcases List.mem_cons.1 hb with rfl | hb2
      · exact absurd (List.mem_map.2 ⟨a, ha2, e⟩ : f b ∈ l.map f) hn.1
      · exact ih hn.2 a ha2 b hb2 e
def seen (r : CallR) : WaitM := ⟨r.seq, r.iss, r.given⟩
/-- the client and its book agree. -/
structure Sync (S : CliS) (bs : List BookM) : Prop where
  next : S.next = 9 + bs.length
  calls : S.calls.map seen = waitsOf 9 bs
theorem Sync.water {S : CliS} {bs : List BookM} (h : Sync S bs) : waterM S = leastM 9 bs := by
  have hc := h.calls
  have hn := h.next
  unfold waterM leastM
  rw [← hc]
  cases S.calls with
  | nil => exact hn
  | cons r l => rfl
theorem Sync.nodup {S : CliS} {bs : List BookM} (h : Sync S bs) : (S.calls.map (·.seq)).Nodup := by
  have e : S.calls.map (·.seq) = (waitsOf 9 bs).map (·.seq) := by rw [← h.calls, List.map_map]; rfl
  rw [e]
  have hr := waits_rise bs 9
  rw [List.Nodup, List.pairwise_map]
  exact hr.imp (fun hlt he => by omega)
theorem Sync.mem {S : CliS} {bs : List BookM} (h : Sync S bs) (r : CallR) (hr : r ∈ S.calls) : ∃ w ∈ waitsOf 9 bs, w.seq = r.seq :=
  ⟨seen r, by rw [← h.calls]; exact List.mem_map.2 ⟨r, hr, rfl⟩, rfl⟩
theorem Sync.iff {S : CliS} {bs : List BookM} (h : Sync S bs) (f : CallR → Bool) (r : CallR) (hr : r ∈ S.calls) : r.seq ∈ (S.calls.filter f).map (·.seq) ↔ f r = true := by
  constructor
  · intro hm
    obtain ⟨r', hr', e⟩ := List.mem_map.1 hm
    obtain ⟨h1, h2⟩ := List.mem_filter.1 hr'
    rw [← inj_of_nodup (fun r : CallR => r.seq) S.calls h.nodup r' h1 r hr e]
    exact h2
  · intro hf
    exact List.mem_map.2 ⟨r, List.mem_filter.2 ⟨hr, hf⟩, rfl⟩
theorem Sync.sub {S : CliS} {bs : List BookM} (h : Sync S bs) (f : CallR → Bool) : ((S.calls.filter f).map (·.seq)).Nodup ∧ ∀ q ∈ (S.calls.filter f).map (·.seq), ∃ w ∈ waitsOf 9 bs, w.seq = q := by
  constructor
  · exact h.nodup.sublist (List.filter_sublist.map _)
  · intro q hq
    obtain ⟨r, hr, rfl⟩ := List.mem_map.1 hq
    exact h.mem r (List.mem_filter.1 hr).1
theorem Sync.called {S : CliS} {bs : List BookM} (h : Sync S bs) (k hh : Nat) (dst prog vers proc : Int) (args : ByteArray) (vc : Value) :
    Sync { S with calls := S.calls ++ [newCall S k hh dst prog vers proc args], vc := vc, next := S.next + 1 } (bs ++ [⟨S.now, 0, false⟩]) := by
  refine ⟨?_, ?_⟩
  · show S.next + 1 = _
    rw [h.next, List.length_append]
    simp only [List.length_cons, List.length_nil]
    omega
  · show (S.calls ++ [newCall S k hh dst prog vers proc args]).map seen = _
    rw [waits_append, List.map_append, h.calls, if_neg Bool.false_ne_true]
    congr 1
    show [(⟨S.next, S.now, 0⟩ : WaitM)] = _
    rw [h.next]
/-- the numbers that Due gives. -/
def dueQs (S : CliS) : List Int := (S.calls.filter (fun r => !decide (dueM S.cfg.pace r.iss S.now ≤ r.done))).map (·.seq)
theorem Sync.dued {S : CliS} {bs : List BookM} (h : Sync S bs) : Sync { S with calls := S.calls.map (dueCall S.cfg.pace S.now) } ((dueQs S).foldl (sendB 9) bs) := by
  have hs := h.sub (fun r => !decide (dueM S.cfg.pace r.iss S.now ≤ r.done))
  refine ⟨?_, ?_⟩
  · show S.next = _
    rw [fold_length (sendB_length 9), h.next]
  · show (S.calls.map (dueCall S.cfg.pace S.now)).map seen = _
    rw [show dueQs S = (S.calls.filter (fun r => !decide (dueM S.cfg.pace r.iss S.now ≤ r.done))).map (·.seq) from rfl, sends_waits 9 _ bs hs.1 hs.2, ← h.calls, List.map_map, List.map_map]
    apply List.map_congr_left
    intro r hr
    have hi := h.iff (fun r => !decide (dueM S.cfg.pace r.iss S.now ≤ r.done)) r hr
    show seen (dueCall S.cfg.pace S.now r) = if (seen r).seq ∈ _ then _ else _
    split
    · rename_i hm
      have hd : ¬ dueM S.cfg.pace r.iss S.now ≤ r.done := by have := hi.1 hm; simpa using this
      rw [show dueCall S.cfg.pace S.now r = _ from if_neg hd]
      rfl
    · rename_i hm
      have hd : dueM S.cfg.pace r.iss S.now ≤ r.done := by
        by_cases hd : dueM S.cfg.pace r.iss S.now ≤ r.done
        · exact hd
        · exact absurd (hi.2 (by simp [hd])) hm
      rw [show dueCall S.cfg.pace S.now r = _ from if_pos hd]
/-- calls that have their outcome, behind these outcomes. -/
theorem Sync.ended {S : CliS} {bs : List BookM} (h : Sync S bs) (p : CallR → Bool) (S' : CliS) (hc : S'.calls = S.calls.filter (fun r => !p r)) (hn : S'.next = S.next) : Sync S' (((S.calls.filter p).map (·.seq)).foldl (endB 9) bs) := by
  have hs := h.sub p
  refine ⟨?_, ?_⟩
  · rw [hn, fold_length (endB_length 9), h.next]
  · rw [hc, ends_waits 9 _ bs hs.1 hs.2, ← h.calls, List.filter_map]
    congr 1
    apply List.filter_congr
    intro r hr
    have hi := h.iff p r hr
    by_cases hp : p r = true
    · refine Eq.trans (b := false) (by rw [hp]; rfl) (Eq.symm ?_)
      exact decide_eq_false (fun hm => hm (hi.2 hp))
    · refine Eq.trans (b := true) (by simpa using hp) (Eq.symm ?_)
      exact decide_eq_true (fun hm => hp (hi.1 hm))
end Go.Proofs.YtbegjpmifcnieaaGreatDoor

/- A client's life (ClientOnce): what stays true. No program stands here. -/
namespace Go.Proofs.YtbegjpmifcnieaaGreatDoor

/-- what is true of a call that waits: it is in time; it was sent no oftener than was due, and that is Tries times at the most. -/
structure Fine (p : PaceM) (now : Int) (r : CallR) : Prop where
  i0 : 0 ≤ r.iss
  i1 : r.iss ≤ now
  live : now < r.iss + totalM p
  g0 : 0 ≤ r.given
  gd : r.given ≤ r.done
  dt : r.done ≤ p.tries
theorem dueM_le (p : PaceM) (iss now : Int) (ht : 0 ≤ p.tries) : 0 ≤ dueM p iss now ∧ dueM p iss now ≤ p.tries := by
  have h := dueFrom_le p iss now p.tries.toNat 0
  unfold dueM
  omega
theorem Fine.dued {p : PaceM} {now : Int} {r : CallR} (h : Fine p now r) (ht : 0 ≤ p.tries) : Fine p now (dueCall p now r) := by
  have hd := dueM_le p r.iss now ht
  unfold dueCall
  by_cases hc : dueM p r.iss now ≤ r.done
  · rw [if_pos hc]; exact h
  · rw [if_neg hc]
    exact ⟨h.i0, h.i1, h.live, by have := h.g0; show 0 ≤ r.given + 1; omega, by have := h.gd; show r.given + 1 ≤ dueM p r.iss now; omega, hd.2⟩
/-- asked again at the same time, nothing is due. -/
theorem due_done (p : PaceM) (now : Int) (r : CallR) : dueM p (dueCall p now r).iss now ≤ (dueCall p now r).done := by
  unfold dueCall
  by_cases hc : dueM p r.iss now ≤ r.done
  · rw [if_pos hc]; exact hc
  · rw [if_neg hc]; exact Int.le_refl _
theorem due_again (S : CliS) (water : Int) : dueOuts { S with calls := S.calls.map (dueCall S.cfg.pace S.now) } water (S.calls.map (dueCall S.cfg.pace S.now)) = [] := by
  unfold dueOuts
  rw [List.flatMap_eq_nil_iff]
  intro r hr
  obtain ⟨r', _, rfl⟩ := List.mem_map.1 hr
  unfold dueOut
  exact if_pos (due_done _ _ _)
/-- time goes on: what has not come to its end is fine still; what has, ends just now. -/
theorem Fine.tick {p : PaceM} {now : Int} {r : CallR} (h : Fine p now r) : (overB p (now + 1) r = true → r.iss + totalM p = now + 1) ∧ (overB p (now + 1) r = false → Fine p (now + 1) r) := by
  unfold overB
  constructor
  · intro ho
    have := of_decide_eq_true ho
    have := h.live
    omega
  · intro ho
    have := of_decide_eq_false ho
    exact ⟨h.i0, by have := h.i1; omega, by omega, h.g0, h.gd, h.dt⟩
theorem Fine.new {S : CliS} {p : PaceM} (h0 : 0 ≤ S.now) (ht : 0 < totalM p) (hr : 0 ≤ p.tries) (k hh : Nat) (dst prog vers proc : Int) (args : ByteArray) : Fine p S.now (newCall S k hh dst prog vers proc args) :=
  ⟨h0, Int.le_refl _, by show S.now < S.now + totalM p; omega, Int.le_refl _, Int.le_refl _, hr⟩
/-- the water does not fall where calls end. -/
theorem Sync.rises {S : CliS} {bs : List BookM} (h : Sync S bs) (p : CallR → Bool) : leastM 9 bs ≤ leastM 9 (((S.calls.filter p).map (·.seq)).foldl (endB 9) bs) := by
  have hs := h.sub p
  exact leastM_filter 9 bs _ (fun w => decide (w.seq ∉ (S.calls.filter p).map (·.seq))) (fold_length (endB_length 9) _ bs) (ends_waits 9 _ bs hs.1 hs.2)
theorem Sync.stays {S : CliS} {bs : List BookM} (h : Sync S bs) : leastM 9 ((dueQs S).foldl (sendB 9) bs) = leastM 9 bs := by
  have h2 := h.dued.water
  rw [← h2, ← h.water]
  unfold waterM
  show (match (S.calls.map (dueCall S.cfg.pace S.now)) with | [] => S.next | r :: _ => r.seq) = _
  cases S.calls with
  | nil => rfl
  | cons r l =>
    show (dueCall S.cfg.pace S.now r).seq = r.seq
    unfold dueCall
    split <;> rfl
end Go.Proofs.YtbegjpmifcnieaaGreatDoor

/- A client's life (ClientOnce): which numbers wait; how long a call may take. No program stands here. -/
namespace Go.Proofs.YtbegjpmifcnieaaGreatDoor

/-- a number of the book waits just where its line is not over. -/
theorem Sync.waits {S : CliS} {bs : List BookM} (h : Sync S bs) (i : Nat) (hi : i < bs.length) : (∃ r ∈ S.calls, r.seq = 9 + i) ↔ bs[i].over = false := by
  constructor
  · rintro ⟨r, hr, e⟩
    have hm : seen r ∈ waitsOf 9 bs := by rw [← h.calls]; exact List.mem_map.2 ⟨r, hr, rfl⟩
    obtain ⟨j, hj, ho, e2⟩ := waits_of_mem bs 9 _ hm
    have e3 : r.seq = 9 + (j : Int) := congrArg WaitM.seq e2
    have : j = i := by omega
    subst this
    exact ho
  · intro ho
    have hm := waits_mem bs 9 i hi ho
    rw [← h.calls] at hm
    obtain ⟨r, hr, e⟩ := List.mem_map.1 hm
    exact ⟨r, hr, congrArg WaitM.seq e⟩
/-- and its line says when it was issued and how often it was sent. -/
theorem Sync.line {S : CliS} {bs : List BookM} (h : Sync S bs) (r : CallR) (hr : r ∈ S.calls) : ∃ i, ∃ hi : i < bs.length, r.seq = 9 + i ∧ bs[i].over = false ∧ bs[i].iat = r.iss ∧ bs[i].sent = r.given := by
  have hm : seen r ∈ waitsOf 9 bs := by rw [← h.calls]; exact List.mem_map.2 ⟨r, hr, rfl⟩
  obtain ⟨i, hi, ho, e⟩ := waits_of_mem bs 9 _ hm
  exact ⟨i, hi, congrArg WaitM.seq e, ho, (congrArg WaitM.iss e).symm, (congrArg WaitM.given e).symm⟩
theorem Sync.range {S : CliS} {bs : List BookM} (h : Sync S bs) (r : CallR) (hr : r ∈ S.calls) : 9 ≤ r.seq ∧ r.seq < 9 + bs.length := by
  obtain ⟨i, hi, e, _⟩ := h.line r hr
  omega
theorem sumN_pos {p : PaceM} (h : Right p) (n : Nat) : (n : Int) ≤ sumN p n := by
  induction n with
  | zero => exact Int.le_refl _
  | succ n ih =>
    have := (waitN_bounds h n).1
    show ((n + 1 : Nat) : Int) ≤ sumN p n + waitN p n
    omega
theorem total_pos {p : PaceM} (h : Right p) (ht : 1 ≤ p.tries) : 0 < totalM p := by
  rw [totalM_eq h]
  have := sumN_pos h p.tries.toNat
  omega
/-- the numbers that wait, in order, as the book's loop gathers them. -/
def openQs (k : Int) : List BookM → List Int
  | [] => []
  | b :: bs => if b.over = true then openQs (k + 1) bs else k :: openQs (k + 1) bs
theorem openQs_waits (bs : List BookM) : ∀ k, openQs k bs = (waitsOf k bs).map (·.seq) := by
  induction bs with
  | nil => intro k; rfl
  | cons b bs ih =>
    intro k
    unfold openQs waitsOf
    split
    · exact ih _
    · rw [List.map_cons, ih]
theorem openQs_append (bs : List BookM) (b : BookM) (k : Int) : openQs k (bs ++ [b]) = openQs k bs ++ (if b.over = true then [] else [k + bs.length]) := by
  rw [openQs_waits, openQs_waits, waits_append, List.map_append]
  split <;> rfl
theorem Sync.opens {S : CliS} {bs : List BookM} (h : Sync S bs) : openQs 9 bs = S.calls.map (·.seq) := by
  rw [openQs_waits, ← h.calls, List.map_map]
  rfl
end Go.Proofs.YtbegjpmifcnieaaGreatDoor

/- ClientOnce: a request is read back as its call, its credential judged as its mark; a reply to a number is printed and read back. No program stands here. -/
namespace Go.Proofs.YtbegjpmifcnieaaGreatDoor

def callOf (S : CliS) (r : CallR) (water : Int) : CallM := ⟨r.seq, 2, r.prog, r.vers, r.proc, ⟨1296126539, markStr (cmarkOf S r water)⟩, ⟨0, ByteArray.empty⟩, r.args⟩
theorem markStr_le {m : MarkM} (h : mayB m = true) : (markStr m).size ≤ 400 := by
  have := (sysStr_bound (mayB_iff.1 h).2.2.2).1
  rw [markStr_size]
  omega
theorem word_of {n : Int} (h0 : 0 ≤ n) (h1 : n ≤ 4294967295) : isWordB n = true := isWordB_iff.2 ⟨h0, h1⟩
theorem callOf_may {S : CliS} {r : CallR} {water : Int} (hm : mayB (cmarkOf S r water) = true) (hp : isWordB r.prog = true) (hv : isWordB r.vers = true) (hq : isWordB r.proc = true) (hf : fitsB r.args = true) : callMayB (callOf S r water) = true := by
  have hs := (mayB_iff.1 hm).2.1
  refine callMay_iff.2 ⟨word_of (by show 0 ≤ r.seq; exact Int.le_trans (by decide) hs.1) hs.2, hp, hv, hq, authMay_iff.2 ⟨show isWordB 1296126539 = true by decide, ?_⟩, authMay_iff.2 ⟨show isWordB 0 = true by decide, show ((ByteArray.empty.size : Nat) : Int) ≤ 400 by decide⟩, hf, rfl⟩
  have := markStr_le hm
  show ((markStr (cmarkOf S r water)).size : Int) ≤ 400
  omega
theorem request_str {S : CliS} {r : CallR} {water : Int} (hm : mayB (cmarkOf S r water) = true) (hp : isWordB r.prog = true) (hv : isWordB r.vers = true) (hq : isWordB r.proc = true) (hf : fitsB r.args = true) : requestM S r water = callStr (callOf S r water) := by
  unfold requestM
  rw [printMark_yes hm]
  show (printCallM (callOf S r water)).1 = _
  rw [(printCall_yes (callOf_may hm hp hv hq hf)).1]
theorem request_parsed {S : CliS} {r : CallR} {water : Int} (hm : mayB (cmarkOf S r water) = true) (hp : isWordB r.prog = true) (hv : isWordB r.vers = true) (hq : isWordB r.proc = true) (hf : fitsB r.args = true) : parseCallM (requestM S r water) = (callOf S r water, 0) := by
  rw [request_str hm hp hv hq hf, parseCall_print (callOf_may hm hp hv hq hf)]
theorem request_judged {S : CliS} {r : CallR} {water : Int} (hm : mayB (cmarkOf S r water) = true) (hw : water ≤ r.seq) : judgeM (callOf S r water) = (cmarkOf S r water, true, 0) := by
  have hp : parseMarkM (callOf S r water).cred = (cmarkOf S r water, 0) := parseMark_print hm
  have h : (judgeM (callOf S r water)).2.1 = true := by
    rw [judge_is]
    unfold mustB
    rw [hp]
    rw [Bool.and_eq_true, Bool.and_eq_true, Bool.and_eq_true]
    exact ⟨⟨⟨decide_eq_true rfl, decide_eq_true rfl⟩, decide_eq_true hw⟩, decide_eq_true ⟨rfl, rfl⟩⟩
  rw [(judge_mark h).1, hp]
theorem request_size {S : CliS} {r : CallR} {water : Int} (hm : mayB (cmarkOf S r water) = true) (hp : isWordB r.prog = true) (hv : isWordB r.vers = true) (hq : isWordB r.proc = true) (hf : fitsB r.args = true) : (requestM S r water).size ≤ 4096 := by
  rw [request_str hm hp hv hq hf]
  have h1 := markStr_le hm
  have h2 := (fits_iff.1 hf).1
  have hw : (wordsStr (callWords (callOf S r water))).size = 24 := by rw [wordsStr_size]; rfl
  have hc := (authStr_size ((authMay_iff (a := (callOf S r water).cred)).2 ⟨show isWordB 1296126539 = true by decide, by show ((markStr (cmarkOf S r water)).size : Int) ≤ 400; omega⟩)).1
  have hv := (authStr_size ((authMay_iff (a := (callOf S r water).verf)).2 ⟨show isWordB 0 = true by decide, show ((ByteArray.empty.size : Nat) : Int) ≤ 400 by decide⟩)).1
  unfold callStr
  rw [ByteArray.size_append, ByteArray.size_append, ByteArray.size_append]
  have : (callOf S r water).args = r.args := rfl
  rw [this]
  omega

def wxyz : ByteArray := { data := #[119, 120, 121, 122] }
def replyOf (n : Int) : ReplyM := ⟨n, false, ⟨0, ByteArray.empty⟩, 0, 0, 0, 0, 0, wxyz⟩
theorem replyOf_may {n : Int} (h : isWordB n = true) : replyMayB (replyOf n) = true := by
  show mayR (isWordB n) (isWordB 0) (isWordB 0) (authMayB ⟨0, ByteArray.empty⟩) (fitsB wxyz) (replyOf n) = true
  rw [h]
  rfl
theorem replyOf_print {n : Int} (h : isWordB n = true) : printReplyM (replyOf n) = (replyStr (replyOf n), 0) := (printReply_yes (replyOf_may h)).1
theorem replyOf_parse {n : Int} (h : isWordB n = true) : parseReplyM (replyStr (replyOf n)) = (replyOf n, 0) := parseReply_print (replyOf_may h)
end Go.Proofs.YtbegjpmifcnieaaGreatDoor

/- ClientOnce: a client's life in memory: its book is a row of four cells a line. -/
namespace Go.Proofs.YtbegjpmifcnieaaGreatDoor
open Go.RowKit
set_option linter.unusedVariables false
set_option linter.unusedSimpArgs false

def BookM.cells (q : Int) (b : BookM) : List Value := [.int .i64 q, .int .i64 b.iat, .int .i64 b.sent, .bool b.over]
def bookRow (k : Int) : List BookM → List Value
  | [] => []
  | b :: bs => b.cells k ++ bookRow (k + 1) bs
theorem bookRow_length (bs : List BookM) : ∀ k, (bookRow k bs).length = bs.length * 4 := by
  induction bs with
  | nil => intro k; rfl
  | cons b bs ih =>
    intro k
    show (b.cells k ++ bookRow (k + 1) bs).length = _
    rw [List.length_append, ih, List.length_cons, show (b.cells k).length = 4 from rfl]
    omega
theorem bookRow_append (bs : List BookM) (b : BookM) : ∀ k, bookRow k (bs ++ [b]) = bookRow k bs ++ b.cells (k + bs.length) := by
  induction bs with
  | nil => intro k; simp [bookRow]
  | cons c bs ih =>
    intro k
    have e : k + 1 + (bs.length : Int) = k + ((c :: bs).length : Nat) := by simp only [List.length_cons]; omega
    show c.cells k ++ bookRow (k + 1) (bs ++ [b]) = (c.cells k ++ bookRow (k + 1) bs) ++ _
    rw [ih, e, List.append_assoc]
theorem bookRow_get (bs : List BookM) : ∀ k i (hi : i < bs.length) j (_ : j < 4), (bookRow k bs)[i * 4 + j]? = (bs[i].cells (k + i))[j]? := by
  induction bs with
  | nil => intro k i hi; simp at hi
  | cons b bs ih =>
    intro k i hi j hj
    have hl : (b.cells k).length = 4 := rfl
    show (b.cells k ++ bookRow (k + 1) bs)[i * 4 + j]? = _
    match i with
    | 0 =>
      rw [List.getElem?_append_left (by omega), Nat.zero_mul, Nat.zero_add, List.getElem_cons_zero, show k + ((0 : Nat) : Int) = k by omega]
    | i + 1 =>
      rw [List.getElem?_append_right (by omega), show (i + 1) * 4 + j - (b.cells k).length = i * 4 + j by omega, ih (k + 1) i (by simpa using hi) j hj, List.getElem_cons_succ, show k + 1 + (i : Int) = k + ((i + 1 : Nat) : Int) by omega]
/-- a line that is changed in one cell. -/
theorem bookRow_set (bs : List BookM) (b' : BookM) (j : Nat) (u : Value) (hj : j < 4) : ∀ k i (hi : i < bs.length), b'.cells (k + i) = (bs[i].cells (k + i)).set j u → bookRow k (bs.set i b') = (bookRow k bs).set (i * 4 + j) u := by
  induction bs with
  | nil => intro k i hi; simp at hi
  | cons b bs ih =>
    intro k i hi hb
    have hl : (b.cells k).length = 4 := rfl
    match i with
    | 0 =>
      rw [List.getElem_cons_zero, show k + ((0 : Nat) : Int) = k by omega] at hb
      show b'.cells k ++ bookRow (k + 1) bs = (b.cells k ++ bookRow (k + 1) bs).set (0 * 4 + j) u
      rw [List.set_append_left _ _ (by omega), hb, Nat.zero_mul, Nat.zero_add]
    | i + 1 =>
      show b.cells k ++ bookRow (k + 1) (bs.set i b') = (b.cells k ++ bookRow (k + 1) bs).set ((i + 1) * 4 + j) u
      rw [List.set_append_right _ _ (by omega), show (i + 1) * 4 + j - (b.cells k).length = i * 4 + j by omega]
      rw [ih (k + 1) i (by simpa using hi) (by rw [show k + 1 + (i : Int) = k + ((i + 1 : Nat) : Int) by omega]; exact hb)]
theorem set_take {α : Type} (l : List α) (m j : Nat) (u : α) : (l.set j u).take m = (l.take m).set j u := by
  apply List.ext_getElem?
  intro i
  simp only [List.getElem?_take, List.getElem?_set, List.length_take]
  by_cases h1 : i < m
  · by_cases h2 : j = i
    · subst h2
      simp only [h1, if_true]
      split <;> split <;> first | rfl | omega
    · simp [h1, h2]
  · simp only [h1, if_false]
    split
    · split
      · omega
      · rfl
    · rfl
/-- a store into a cell of a row that is one's own. -/
theorem ownsRow_put {w : World} {base e size n g c : Nat} {xs : List Value} (h : w.ownsRow base e size (.slice (some ⟨g, 0, none⟩) n c) n xs) (j : Nat) (u : Value) :
    (w.setCell ⟨g, j, none⟩ u).ownsRow base e size (.slice (some ⟨g, 0, none⟩) n c) n (xs.set j u) := by
  refine ⟨by rw [List.length_set]; exact h.1, ?_⟩
  rcases h.2 with ⟨h0, _⟩ | ⟨g', cap, cur, h0, hb, hg, h3, h4, h5, h6⟩
  · cases h0
  · have e := h0
    injection h0 with h0 _ h0c
    injection h0 with h0
    injection h0 with h0
    subst h0
    subst h0c
    refine .inr ⟨g, c, cur.setIfInBounds j u, rfl, hb, setOf' hg j u, h3, h4, by rw [Array.size_setIfInBounds]; exact h5, ?_⟩
    rw [Array.toList_setIfInBounds, set_take, h6]

/-- what a client stands on, by its kinds. -/
def kindC (t : Nat) : Bool := t == 161 || t == 254 || t == 3 || t == 228 || t == 146 || t == 230 || t == 48 || t == 9
theorem Cli.kinds {w : World} {b : Nat} {S : CliS} (h : Cli w b S) {k : Nat} (hf : Foot b S k) : ∃ c t, w.heap[k]? = some (.cells c t (0, 0)) ∧ kindC t = true := by
  rcases hf with rfl | rfl | ⟨a, ha, rfl⟩ | e | e | ⟨r, hr, hm⟩
  · exact ⟨_, _, h.box, by decide⟩
  · exact ⟨_, _, h.rest.met, by decide⟩
  · obtain ⟨o, hx⟩ : ∃ o, w.heap[a.block]? = some o := ⟨_, Array.getElem?_eq_getElem (h.rest.grpT a ha).1⟩
    obtain ⟨x, rfl⟩ := (h.rest.grpT a ha).2 _ hx
    exact ⟨_, _, hx, by decide⟩
  · rcases h.rest.own.2 with ⟨h0, _⟩ | ⟨g, cap, cur, h0, _, hg, _⟩
    · rw [h0] at e; cases e
    · rw [h0] at e; obtain rfl : g = k := Option.some.inj e; exact ⟨_, _, hg, by decide⟩
  · rcases h.rest.outs.2 with ⟨h0, _⟩ | ⟨g, cap, cur, h0, _, hg, _⟩
    · rw [h0] at e; cases e
    · rw [h0] at e; obtain rfl : g = k := Option.some.inj e; exact ⟨_, _, hg, by decide⟩
  · obtain ⟨c', t, hc', ht⟩ := (h.rest.each r hr).kind hm
    exact ⟨_, _, hc', by rcases ht with e | e | e | e <;> (rw [e]; decide)⟩
/-- a block of another kind is none of a client's. -/
theorem Cli.not_foot {w : World} {b : Nat} {S : CliS} (h : Cli w b S) {k : Nat} {c : Array Value} {t : Nat} (hk : w.heap[k]? = some (.cells c t (0, 0))) (ht : kindC t = false) : ¬ Foot b S k := fun hf => by
  obtain ⟨c', t', h1, h2⟩ := h.kinds hf
  rw [h1] at hk
  simp only [Option.some.injEq, Obj.cells.injEq] at hk
  rw [hk.2.1, ht] at h2
  cases h2

/-- a client's life in memory: it stands behind w0. -/
structure LifeI (w0 : World) (x b : Nat) (S : CliS) (bs : List BookM) (vl : Value) (water said : Int) (w : World) : Prop where
  box : w.heap[x]? = some (.cells #[ptrV b, vl, .int .i64 water, .int .i64 said] 62 (0, 0))
  row : w.ownsRow w0.heap.size 164 4 vl bs.length (bookRow 9 bs)
  cli : Cli w b S
  lo : ∀ q, Foot b S q → w0.heap.size ≤ q
  xlo : w0.heap.size ≤ x
  fr : Fr (fun _ => False) w0 w
theorem LifeI.x_foot {w0 w : World} {x b : Nat} {S : CliS} {bs : List BookM} {vl : Value} {wt sd : Int} (h : LifeI w0 x b S bs vl wt sd w) : ¬ Foot b S x := h.cli.not_foot h.box (by decide)
theorem LifeI.row_foot {w0 w : World} {x b : Nat} {S : CliS} {bs : List BookM} {vl : Value} {wt sd : Int} (h : LifeI w0 x b S bs vl wt sd w) {g : Nat} (e : vl.ownBlock = some g) : ¬ Foot b S g := by
  rcases h.row.2 with ⟨h0, _⟩ | ⟨g', cap, cur, h0, _, hg, _⟩
  · rw [h0] at e; cases e
  · rw [h0] at e; obtain rfl : g' = g := Option.some.inj e; exact h.cli.not_foot hg (by decide)
theorem LifeI.row_x {w0 w : World} {x b : Nat} {S : CliS} {bs : List BookM} {vl : Value} {wt sd : Int} (h : LifeI w0 x b S bs vl wt sd w) : vl.ownBlock ≠ some x := fun e => by
  rcases h.row.2 with ⟨h0, _⟩ | ⟨g', cap, cur, h0, _, hg, _⟩
  · rw [h0] at e; cases e
  · rw [h0] at e
    obtain rfl : g' = x := Option.some.inj e
    rw [h.box] at hg
    simp at hg
theorem LifeI.slice {w0 w : World} {x b : Nat} {S : CliS} {bs : List BookM} {vl : Value} {wt sd : Int} (h : LifeI w0 x b S bs vl wt sd w) : ∃ A c, vl = .slice A bs.length c ∧ (bs = [] ∨ ∃ g, A = some ⟨g, 0, none⟩) := by
  obtain ⟨A, c, e⟩ := owns_slice h.row
  refine ⟨A, c, e, ?_⟩
  rcases h.row.2 with ⟨_, h1⟩ | ⟨g, cap, cur, h0, _⟩
  · exact .inl (List.length_eq_zero_iff.1 h1)
  · rw [e] at h0
    injection h0 with h0
    exact .inr ⟨g, h0⟩
theorem LifeI.grown {w0 w w' : World} {x b : Nat} {S : CliS} {bs : List BookM} {vl : Value} {wt sd : Int} (h : LifeI w0 x b S bs vl wt sd w) (hf : Fr (fun _ => False) w w') : LifeI w0 x b S bs vl wt sd w' :=
  ⟨(hf.block _ (lt_of_block h.box) id).trans h.box, ownsRow_keep h.row (fun g e => hf.block _ (h.row.lt g e).2 id), h.cli.grown hf, h.lo, h.xlo, h.fr.trans hf⟩
/-- a step of the client's alone. -/
theorem LifeI.step {w0 w w' : World} {x b : Nat} {S S' : CliS} {bs : List BookM} {vl : Value} {wt sd : Int} {T : Nat → Prop} (h : LifeI w0 x b S bs vl wt sd w) (hc : Cli w' b S') (hf : Fr T w w') (hT : ∀ k, T k → Foot b S k)
    (hl : ∀ q, Foot b S' q → Foot b S q ∨ w.heap.size ≤ q) : LifeI w0 x b S' bs vl wt sd w' :=
  ⟨(hf.block _ (lt_of_block h.box) (fun e => h.x_foot (hT _ e))).trans h.box, ownsRow_keep h.row (fun g e => hf.block _ (h.row.lt g e).2 (fun e2 => h.row_foot e (hT _ e2))), hc,
    fun q hq => (hl q hq).elim (h.lo q) (fun h2 => Nat.le_trans h.fr.size h2), h.xlo, h.fr.then hf (fun i hi e => by have := h.lo i (hT i e); omega)⟩
theorem LifeI.setWater {w0 w : World} {x b : Nat} {S : CliS} {bs : List BookM} {vl : Value} {wt sd : Int} (h : LifeI w0 x b S bs vl wt sd w) (n : Int) : LifeI w0 x b S bs vl n sd (w.setCell ⟨x, 2, none⟩ (.int .i64 n)) :=
  ⟨(setOf' h.box 2 _).trans rfl, ownsRow_keep h.row (fun g e => Below.heap_setCell _ _ _ _ (fun e2 => h.row_x (by rw [e]; exact congrArg some e2))), h.cli.keep (by rw [World.size_setCell]; exact Nat.le_refl _) (fun k hk => Below.heap_setCell _ _ _ _ (fun e => h.x_foot ((show k = x from e) ▸ hk))), h.lo, h.xlo, h.fr.setCell (p := ⟨x, 2, none⟩) (.inr h.xlo) _⟩
theorem LifeI.setSaid {w0 w : World} {x b : Nat} {S : CliS} {bs : List BookM} {vl : Value} {wt sd : Int} (h : LifeI w0 x b S bs vl wt sd w) (n : Int) : LifeI w0 x b S bs vl wt n (w.setCell ⟨x, 3, none⟩ (.int .i64 n)) :=
  ⟨(setOf' h.box 3 _).trans rfl, ownsRow_keep h.row (fun g e => Below.heap_setCell _ _ _ _ (fun e2 => h.row_x (by rw [e]; exact congrArg some e2))), h.cli.keep (by rw [World.size_setCell]; exact Nat.le_refl _) (fun k hk => Below.heap_setCell _ _ _ _ (fun e => h.x_foot ((show k = x from e) ▸ hk))), h.lo, h.xlo, h.fr.setCell (p := ⟨x, 3, none⟩) (.inr h.xlo) _⟩
/-- a store into a line. -/
theorem LifeI.setLine {w0 w : World} {x b : Nat} {S : CliS} {bs : List BookM} {g c : Nat} {wt sd : Int} (h : LifeI w0 x b S bs (.slice (some ⟨g, 0, none⟩) bs.length c) wt sd w) (i : Nat) (hi : i < bs.length) (b' : BookM) (j : Nat) (hj : j < 4) (u : Value)
    (hb : b'.cells (9 + i) = (bs[i].cells (9 + i)).set j u) : LifeI w0 x b S (bs.set i b') (.slice (some ⟨g, 0, none⟩) bs.length c) wt sd (w.setCell ⟨g, i * 4 + j, none⟩ u) := by
  have hg : w0.heap.size ≤ g := (h.row.lt g rfl).1
  refine ⟨(Below.heap_setCell w ⟨g, i * 4 + j, none⟩ u x (fun e => h.row_x (congrArg some (show g = x from e.symm)))).trans h.box, ?_, h.cli.keep (by rw [World.size_setCell]; exact Nat.le_refl _) (fun k hk => Below.heap_setCell _ _ _ _ (fun e => h.row_foot (g := g) rfl ((show k = g from e) ▸ hk))), h.lo, h.xlo, h.fr.setCell (p := ⟨g, i * 4 + j, none⟩) (.inr hg) _⟩
  rw [List.length_set, bookRow_set bs b' j u hj 9 i hi hb]
  exact ownsRow_put h.row _ _
theorem LifeI.line {w0 w : World} {x b : Nat} {S : CliS} {bs : List BookM} {g c : Nat} {wt sd : Int} (h : LifeI w0 x b S bs (.slice (some ⟨g, 0, none⟩) bs.length c) wt sd w) (i : Nat) (hi : i < bs.length) :
    w.cell? ⟨g, i * 4 + 0, none⟩ = some (.int .i64 (9 + i)) ∧ w.cell? ⟨g, i * 4 + 1, none⟩ = some (.int .i64 bs[i].iat) ∧ w.cell? ⟨g, i * 4 + 2, none⟩ = some (.int .i64 bs[i].sent) ∧ w.cell? ⟨g, i * 4 + 3, none⟩ = some (.bool bs[i].over) := by
  have hh := fun j (hj : j < 4) (u : Value) (hu : (bs[i].cells (9 + (i : Int)))[j]? = some u) => row_cell h.row (g := g) rfl (i * 4 + j) u ((bookRow_get bs 9 i hi j hj).trans hu)
  exact ⟨hh 0 (by decide) _ rfl, hh 1 (by decide) _ rfl, hh 2 (by decide) _ rfl, hh 3 (by decide) _ rfl⟩
end Go.Proofs.YtbegjpmifcnieaaGreatDoor

/- ClientOnce: what is true of a life behind each step. No program stands here. -/
namespace Go.Proofs.YtbegjpmifcnieaaGreatDoor

def abcdS : ByteArray := { data := #[97, 98, 99, 100] }
def sysZ : SysM := ⟨0, ByteArray.empty, 0, 0, []⟩
def cfgOnce (p : PaceM) (room : Int) : CfgM := ⟨65537, 5, 9, room, p, sysZ⟩
/-- a call of this life's. -/
structure Mine (r : CallR) : Prop where
  dst : r.dst = 65636
  prog : r.prog = 7
  vers : r.vers = 1
  proc : r.proc = 2
  args : r.args = abcdS
structure Once (p : PaceM) (room : Int) (k : Nat) (S : CliS) (bs : List BookM) (wt sd : Int) : Prop where
  right : Right p
  sync : Sync S bs
  cfg : S.cfg = cfgOnce p room
  fine : ∀ r ∈ S.calls, Fine p S.now r
  mine : ∀ r ∈ S.calls, Mine r
  outs : S.outs = []
  now0 : 0 ≤ S.now
  now1 : S.now ≤ k
  len : bs.length ≤ k
  win : S.next - waterM S ≤ room
  wt : wt ≤ waterM S
  sd : sd ≤ waterM S
  k1 : k ≤ 33554432
theorem waits_length (bs : List BookM) : ∀ k, (waitsOf k bs).length ≤ bs.length := by
  induction bs with
  | nil => intro k; exact Nat.le_refl _
  | cons b bs ih =>
    intro k
    unfold waitsOf
    have := ih (k + 1)
    split
    · rw [List.length_cons]; omega
    · rw [List.length_cons, List.length_cons]; omega
theorem Sync.length {S : CliS} {bs : List BookM} (h : Sync S bs) : S.calls.length ≤ bs.length := by
  have h1 := congrArg List.length h.calls
  rw [List.length_map] at h1
  rw [h1]
  exact waits_length bs 9
theorem Sync.water_range {S : CliS} {bs : List BookM} (h : Sync S bs) : 9 ≤ waterM S ∧ waterM S ≤ 9 + bs.length := by
  rw [h.water]
  exact leastM_ge 9 bs
theorem Sync.water_le {S : CliS} {bs : List BookM} (h : Sync S bs) (r : CallR) (hr : r ∈ S.calls) : waterM S ≤ r.seq := by
  have hp : (S.calls.map seen).Pairwise (fun a b => a.seq < b.seq) := by rw [h.calls]; exact waits_rise bs 9
  rw [List.pairwise_map] at hp
  unfold waterM
  cases hc : S.calls with
  | nil => rw [hc] at hr; cases hr
  | cons q l =>
    rw [hc] at hr hp
    rcases List.mem_cons.1 hr with rfl | hr
    · exact Int.le_refl _
    · have h2 : q.seq < r.seq := (List.pairwise_cons.1 hp).1 r hr
      show q.seq ≤ r.seq
      omega
theorem Once.cliN {p : PaceM} {room : Int} {k : Nat} {S : CliS} {bs : List BookM} {wt sd : Int} (h : Once p room k S bs wt sd) : CliN S := by
  have h1 := h.sync.next
  have h2 := h.sync.water_range
  have h3 := h.sync.length
  have h4 := h.len
  have h5 := h.k1
  have h6 := h.now0
  have h7 := h.now1
  exact ⟨by omega, by omega, by omega, by omega, by omega, by rw [h.outs]; exact Nat.zero_le _, h6, by omega⟩
theorem Once.callN {p : PaceM} {room : Int} {k : Nat} {S : CliS} {bs : List BookM} {wt sd : Int} (h : Once p room k S bs wt sd) (r : CallR) (hr : r ∈ S.calls) : CallN r := by
  have hf := h.fine r hr
  have h5 := h.k1
  have h7 := h.now1
  have h8 := h.right.t2
  have i1 := hf.i1
  have gd := hf.gd
  have dt := hf.dt
  exact ⟨hf.i0, by omega, hf.g0, by omega, by rw [(h.mine r hr).args]; decide⟩
theorem Once.mark {p : PaceM} {room : Int} {k : Nat} {S : CliS} {bs : List BookM} {wt sd : Int} (h : Once p room k S bs wt sd) (r : CallR) (hr : r ∈ S.calls) : mayB (cmarkOf S r (waterM S)) = true := by
  have h1 := h.sync.range r hr
  have h2 := h.sync.water_range
  have h4 := h.len
  have h5 := h.k1
  refine mayB_iff.2 ⟨?_, ⟨by show 1 ≤ r.seq; omega, by show r.seq ≤ 4294967295; omega⟩, ⟨by show 1 ≤ waterM S; omega, by show waterM S ≤ 4294967295; omega⟩, ?_⟩
  · show 1 ≤ S.cfg.inst ∧ S.cfg.inst ≤ 4611686018427387904
    rw [h.cfg]
    exact ⟨show (1 : Int) ≤ 5 by decide, show (5 : Int) ≤ 4611686018427387904 by decide⟩
  · show namedB S.cfg.sys = true
    rw [h.cfg]
    show namedB sysZ = true
    decide
/-- a request of this life's is read back. -/
theorem Once.parsed {p : PaceM} {room : Int} {k : Nat} {S : CliS} {bs : List BookM} {wt sd : Int} (h : Once p room k S bs wt sd) (r : CallR) (hr : r ∈ S.calls) :
    parseCallM (requestM S r (waterM S)) = (callOf S r (waterM S), 0) ∧ judgeM (callOf S r (waterM S)) = (cmarkOf S r (waterM S), true, 0) ∧ (requestM S r (waterM S)).size ≤ 4096 := by
  have m := h.mine r hr
  have hm := h.mark r hr
  have hp : isWordB r.prog = true := by rw [m.prog]; decide
  have hv : isWordB r.vers = true := by rw [m.vers]; decide
  have hq : isWordB r.proc = true := by rw [m.proc]; decide
  have hf : fitsB r.args = true := by rw [m.args]; decide
  exact ⟨request_parsed hm hp hv hq hf, request_judged hm (h.sync.water_le r hr), request_size hm hp hv hq hf⟩
/-- one more call. -/
theorem Once.called {p : PaceM} {room : Int} {k : Nat} {S : CliS} {bs : List BookM} {wt sd : Int} (h : Once p room k S bs wt sd) (hk : k + 1 ≤ 33554432) (hw : S.next - waterM S < room) (j hh : Nat) (vc : Value) :
    Once p room (k + 1) { S with calls := S.calls ++ [newCall S j hh 65636 7 1 2 abcdS], vc := vc, next := S.next + 1 } (bs ++ [⟨S.now, 0, false⟩]) wt sd := by
  have hs := h.sync.called j hh 65636 7 1 2 abcdS vc
  have e : waterM { S with calls := S.calls ++ [newCall S j hh 65636 7 1 2 abcdS], vc := vc, next := S.next + 1 } = waterM S := by
    rw [hs.water, h.sync.water]
    exact leastM_append 9 bs _ rfl
  refine ⟨h.right, hs, h.cfg, fun r hr => ?_, fun r hr => ?_, h.outs, h.now0, ?_, ?_, ?_, by rw [e]; exact h.wt, by rw [e]; exact h.sd, hk⟩
  · rcases List.mem_append.1 hr with hr | hr
    · exact h.fine r hr
    · rw [List.mem_singleton.1 hr]
      exact Fine.new h.now0 (total_pos h.right h.right.t1) (by have := h.right.t1; omega) _ _ _ _ _ _ _
  · rcases List.mem_append.1 hr with hr | hr
    · exact h.mine r hr
    · rw [List.mem_singleton.1 hr]
      exact ⟨rfl, rfl, rfl, rfl, rfl⟩
  · have := h.now1
    show S.now ≤ ((k + 1 : Nat) : Int)
    omega
  · have := h.len
    rw [List.length_append]
    show bs.length + 1 ≤ k + 1
    omega
  · rw [e]
    show S.next + 1 - waterM S ≤ room
    omega
theorem dueCall_fields (p : PaceM) (now : Int) (r : CallR) : (dueCall p now r).dst = r.dst ∧ (dueCall p now r).prog = r.prog ∧ (dueCall p now r).vers = r.vers ∧ (dueCall p now r).proc = r.proc ∧ (dueCall p now r).args = r.args := by
  have h := dueCall_same p now r
  exact ⟨h.dst, h.prog, h.vers, h.proc, h.args⟩
/-- requests were given. -/
theorem Once.dued {p : PaceM} {room : Int} {k : Nat} {S : CliS} {bs : List BookM} {wt sd : Int} (h : Once p room k S bs wt sd) (sd' : Int) (hs : sd' ≤ waterM S) :
    waterM { S with calls := S.calls.map (dueCall S.cfg.pace S.now) } = waterM S ∧ Once p room k { S with calls := S.calls.map (dueCall S.cfg.pace S.now) } ((dueQs S).foldl (sendB 9) bs) wt sd' := by
  have hy := h.sync.dued
  have e : waterM { S with calls := S.calls.map (dueCall S.cfg.pace S.now) } = waterM S := by
    rw [hy.water, h.sync.stays, h.sync.water]
  have hp : S.cfg.pace = p := by rw [h.cfg]; rfl
  refine ⟨e, h.right, hy, h.cfg, fun r hr => ?_, fun r hr => ?_, h.outs, h.now0, h.now1, by rw [fold_length (sendB_length 9)]; exact h.len, by rw [e]; exact h.win, by rw [e]; exact h.wt, by rw [e]; exact hs, h.k1⟩
  · obtain ⟨q, hq, rfl⟩ := List.mem_map.1 hr
    rw [hp]
    exact (h.fine q hq).dued (by have := h.right.t1; omega)
  · obtain ⟨q, hq, rfl⟩ := List.mem_map.1 hr
    obtain ⟨f1, f2, f3, f4, f5⟩ := dueCall_fields S.cfg.pace S.now q
    have m := h.mine q hq
    exact ⟨f1.trans m.dst, f2.trans m.prog, f3.trans m.vers, f4.trans m.proc, f5.trans m.args⟩
/-- between a step and the outcomes that it brought. -/
structure Half (p : PaceM) (room : Int) (k : Nat) (S : CliS) (bs : List BookM) (wt sd : Int) : Prop where
  right : Right p
  sync : Sync S ((S.outs.map (·.seq)).foldl (endB 9) bs)
  nodup : (S.outs.map (·.seq)).Nodup
  mem : ∀ q ∈ S.outs.map (·.seq), ∃ w ∈ waitsOf 9 bs, w.seq = q
  time : ∀ o ∈ S.outs, o.at' = S.now ∧ ∀ w ∈ waitsOf 9 bs, w.seq = o.seq → w.iss ≤ S.now ∧ S.now ≤ w.iss + totalM p
  cfg : S.cfg = cfgOnce p room
  fine : ∀ r ∈ S.calls, Fine p S.now r
  mine : ∀ r ∈ S.calls, Mine r
  now0 : 0 ≤ S.now
  now1 : S.now ≤ k
  len : bs.length ≤ k
  win : S.next - waterM S ≤ room
  wt : wt ≤ waterM S
  sd : sd ≤ waterM S
  k1 : k ≤ 33554432
  room : S.outs.length ≤ 33554432
theorem Once.half {p : PaceM} {room : Int} {k : Nat} {S : CliS} {bs : List BookM} {wt sd : Int} (h : Once p room k S bs wt sd) : Half p room k S bs wt sd := by
  have ho := h.outs
  refine ⟨h.right, ?_, ?_, fun q hq => ?_, fun o hq => ?_, h.cfg, h.fine, h.mine, h.now0, h.now1, h.len, h.win, h.wt, h.sd, h.k1, ?_⟩
  · rw [ho]; exact h.sync
  · rw [ho]; exact List.nodup_nil
  · rw [ho] at hq; cases hq
  · rw [ho] at hq; cases hq
  · rw [ho]; exact Nat.zero_le _
theorem Once.more {p : PaceM} {room : Int} {k : Nat} {S : CliS} {bs : List BookM} {wt sd : Int} (h : Once p room k S bs wt sd) (hk : k + 1 ≤ 33554432) : Once p room (k + 1) S bs wt sd :=
  ⟨h.right, h.sync, h.cfg, h.fine, h.mine, h.outs, h.now0, by have := h.now1; omega, by have := h.len; omega, h.win, h.wt, h.sd, hk⟩
/-- the outcomes were told. -/
theorem Half.told {p : PaceM} {room : Int} {k : Nat} {S : CliS} {bs : List BookM} {wt sd : Int} (h : Half p room k S bs wt sd) (vo : Value) : Once p room k { S with outs := [], vo := vo } ((S.outs.map (·.seq)).foldl (endB 9) bs) wt sd :=
  ⟨h.right, ⟨h.sync.next, h.sync.calls⟩, h.cfg, h.fine, h.mine, rfl, h.now0, h.now1, by rw [fold_length (endB_length 9)]; exact h.len, h.win, h.wt, h.sd, h.k1⟩
/-- calls end: their outcomes stand in the order of the calls. -/
theorem Once.ended {p : PaceM} {room : Int} {k : Nat} {S : CliS} {bs : List BookM} {wt sd : Int} (h : Once p room k S bs wt sd) (f : CallR → Bool) (S' : CliS) (k' : Nat) (hc : S'.calls = S.calls.filter (fun r => !f r)) (hn : S'.next = S.next) (hcfg : S'.cfg = S.cfg)
    (ho : S'.outs.map (·.seq) = (S.calls.filter f).map (·.seq)) (ht : ∀ o ∈ S'.outs, o.at' = S'.now) (hl : ∀ r ∈ S.calls, f r = true → r.iss ≤ S'.now ∧ S'.now ≤ r.iss + totalM p) (hf : ∀ r ∈ S.calls, f r = false → Fine p S'.now r)
    (h0 : 0 ≤ S'.now) (h1 : S'.now ≤ k') (hk : k ≤ k') (hk1 : k' ≤ 33554432) : Half p room k' S' bs wt sd := by
  have hs := h.sync.sub f
  have hy := h.sync.ended f S' hc hn
  rw [← ho] at hy
  have hr := h.sync.rises f
  rw [← ho] at hr
  have hw : waterM S ≤ waterM S' := by rw [h.sync.water, hy.water]; exact hr
  have hwin := h.win
  have hwt := h.wt
  have hsd := h.sd
  refine ⟨h.right, hy, by rw [ho]; exact hs.1, by rw [ho]; exact hs.2, fun o hoo => ⟨ht o hoo, fun w hw he => ?_⟩, hcfg.trans h.cfg, fun r hr => ?_, fun r hr => ?_, h0, h1, by have := h.len; omega, by rw [hn]; omega, by omega, by omega, hk1, ?_⟩
  · have hm : o.seq ∈ (S.calls.filter f).map (·.seq) := by rw [← ho]; exact List.mem_map.2 ⟨o, hoo, rfl⟩
    obtain ⟨r, hr, e⟩ := List.mem_map.1 hm
    obtain ⟨hr1, hr2⟩ := List.mem_filter.1 hr
    have hw2 : w ∈ S.calls.map seen := by rw [h.sync.calls]; exact hw
    obtain ⟨q, hq, rfl⟩ := List.mem_map.1 hw2
    have : q = r := inj_of_nodup (fun r : CallR => r.seq) S.calls h.sync.nodup q hq r hr1 (he.trans e.symm)
    subst this
    exact hl q hr1 hr2
  · rw [hc] at hr
    obtain ⟨hr1, hr2⟩ := List.mem_filter.1 hr
    exact hf r hr1 (by simpa using hr2)
  · rw [hc] at hr
    exact h.mine r (List.mem_filter.1 hr).1
  · have e1 : S'.outs.length = (S.calls.filter f).length := by have := congrArg List.length ho; simpa using this
    have e2 := List.length_filter_le f S.calls
    have e3 := h.sync.length
    have e4 := h.len
    have e5 := h.k1
    omega
/-- time goes on. -/
theorem Once.ticked {p : PaceM} {room : Int} {k : Nat} {S : CliS} {bs : List BookM} {wt sd : Int} (h : Once p room k S bs wt sd) (hk : k + 1 ≤ 33554432) (vc vo : Value) : Half p room (k + 1) (tickS { S with now := S.now + 1 } S.calls.length vc vo) bs wt sd := by
  have hp : S.cfg.pace = p := by rw [h.cfg]; rfl
  have e1 : (tickS { S with now := S.now + 1 } S.calls.length vc vo).calls = S.calls.filter (fun r => !overB p (S.now + 1) r) := by
    show tickCalls S.cfg.pace (S.now + 1) S.calls S.calls.length = _
    unfold tickCalls
    rw [List.take_length, List.drop_length, List.append_nil, hp]
  have e2 : (tickS { S with now := S.now + 1 } S.calls.length vc vo).outs = (S.calls.filter (overB p (S.now + 1))).map fun r => outOf { S with now := S.now + 1 } r timeoutO := by
    show tickOuts { S with now := S.now + 1 } S.calls.length = _
    unfold tickOuts
    show S.outs ++ ((S.calls.take S.calls.length).filter (overB S.cfg.pace (S.now + 1))).map _ = _
    rw [h.outs, List.nil_append, List.take_length, hp]
  have n0 := h.now0
  have n1 := h.now1
  refine h.ended (overB p (S.now + 1)) _ (k + 1) e1 rfl rfl ?_ ?_ ?_ ?_ (by show 0 ≤ S.now + 1; omega) (by show S.now + 1 ≤ ((k + 1 : Nat) : Int); omega) (by omega) hk
  · rw [e2, List.map_map]; rfl
  · intro o ho
    rw [e2] at ho
    obtain ⟨r, _, rfl⟩ := List.mem_map.1 ho
    rfl
  · intro r hr hov
    have := (h.fine r hr).tick.1 hov
    have := (h.fine r hr).i1
    show r.iss ≤ S.now + 1 ∧ S.now + 1 ≤ _
    omega
  · intro r hr hov
    exact (h.fine r hr).tick.2 hov
theorem filter_one {l : List CallR} (hn : (l.map (·.k)).Nodup) (r : CallR) (hr : r ∈ l) : l.filter (fun q => decide (q.k = r.k)) = [r] := by
  induction l with
  | nil => cases hr
  | cons c l ih =>
    rw [List.map_cons, List.nodup_cons] at hn
    by_cases hc : c.k = r.k
    · have hcr : c = r := by
        rcases List.mem_cons.1 hr with e | hr2
        · exact e.symm
        · exact absurd (List.mem_map.2 ⟨r, hr2, hc.symm⟩) hn.1
      subst hcr
      rw [List.filter_cons_of_pos (by simp)]
      congr 1
      rw [List.filter_eq_nil_iff]
      intro q hq
      have : q.k ≠ c.k := fun e => hn.1 (List.mem_map.2 ⟨q, hq, e⟩)
      simpa using this
    · rw [List.filter_cons_of_neg (by simpa using hc)]
      rcases List.mem_cons.1 hr with rfl | hr2
      · exact absurd rfl hc
      · exact ih hn.2 hr2
/-- a call is answered. -/
theorem Once.heard {p : PaceM} {room : Int} {k : Nat} {S : CliS} {bs : List BookM} {wt sd : Int} (h : Once p room k S bs wt sd) (hn : (S.calls.map (·.k)).Nodup) (r : CallR) (hr : r ∈ S.calls) (o : OutM) (S' : CliS)
    (hc : S'.calls = keepCalls S r.k) (hx : S'.next = S.next) (hcfg : S'.cfg = S.cfg) (hnow : S'.now = S.now) (ho : S'.outs = S.outs ++ [outOf S r o]) : Half p room k S' bs wt sd := by
  have n0 := h.now0
  have n1 := h.now1
  refine h.ended (fun q => decide (q.k = r.k)) S' k hc hx hcfg ?_ ?_ ?_ ?_ (by rw [hnow]; exact n0) (by rw [hnow]; exact n1) (Nat.le_refl _) h.k1
  · rw [ho, h.outs, filter_one hn r hr]; rfl
  · intro q hq
    rw [ho, h.outs, List.nil_append, List.mem_singleton] at hq
    rw [hq, hnow]
    rfl
  · intro q hq _
    have := (h.fine q hq).live
    have := (h.fine q hq).i1
    rw [hnow]
    omega
  · intro q hq _
    rw [hnow]
    exact h.fine q hq
/-- behind the outcomes: what stands. -/
theorem Once.stood {p : PaceM} {room : Int} {k : Nat} {S : CliS} {bs : List BookM} {wt sd : Int} (h : Once p room k S bs wt sd) : Once p room k S bs (waterM S) sd :=
  ⟨h.right, h.sync, h.cfg, h.fine, h.mine, h.outs, h.now0, h.now1, h.len, h.win, Int.le_refl _, h.sd, h.k1⟩
end Go.Proofs.YtbegjpmifcnieaaGreatDoor

/- ClientOnce: the rounds of the book's loops. No program stands here. -/
namespace Go.Proofs.YtbegjpmifcnieaaGreatDoor

def dueRs (S : CliS) : List CallR := S.calls.filter (fun r => !decide (dueM S.cfg.pace r.iss S.now ≤ r.done))
def packOf (S : CliS) (water : Int) (r : CallR) : PackM := ⟨S.cfg.addr, r.dst, requestM S r water⟩
theorem dueOuts_rs (S : CliS) (water : Int) (l : List CallR) : dueOuts S water l = (l.filter (fun r => !decide (dueM S.cfg.pace r.iss S.now ≤ r.done))).map (packOf S water) := by
  induction l with
  | nil => rfl
  | cons r l ih =>
    have e : dueOuts S water (r :: l) = dueOut S water r ++ dueOuts S water l := by unfold dueOuts; rw [List.flatMap_cons]
    rw [e, ih]
    unfold dueOut
    by_cases h : dueM S.cfg.pace r.iss S.now ≤ r.done
    · rw [if_pos h, List.filter_cons_of_neg (by simpa using h)]; rfl
    · rw [if_neg h, List.filter_cons_of_pos (by simpa using h)]; rfl
theorem dueRs_mem {S : CliS} {r : CallR} (h : r ∈ dueRs S) : r ∈ S.calls ∧ r.done < dueM S.cfg.pace r.iss S.now := by
  obtain ⟨h1, h2⟩ := List.mem_filter.1 h
  exact ⟨h1, by simpa using h2⟩
theorem fold_take {α : Type} (f : List BookM → Int → List BookM) (g : α → Int) (l : List α) (bs : List BookM) (i : Nat) (hi : i < l.length) : ((l.take (i + 1)).map g).foldl f bs = f (((l.take i).map g).foldl f bs) (g l[i]) := by
  rw [List.take_succ_eq_append_getElem hi, List.map_append, List.foldl_append]
  rfl
/-- the book behind i requests. -/
def sentTo (S : CliS) (bs : List BookM) (i : Nat) : List BookM := (((dueRs S).take i).map (·.seq)).foldl (sendB 9) bs
theorem sentTo_length (S : CliS) (bs : List BookM) (i : Nat) : (sentTo S bs i).length = bs.length := fold_length (sendB_length 9) _ _
theorem sentTo_end (S : CliS) (bs : List BookM) : sentTo S bs (dueRs S).length = (dueQs S).foldl (sendB 9) bs := by
  unfold sentTo
  rw [List.take_length]
  rfl
theorem not_mem_take {l : List Int} (hn : l.Nodup) (i : Nat) (hi : i < l.length) : l[i] ∉ l.take i := by
  intro hm
  have e : l = l.take i ++ l[i] :: l.drop (i + 1) := by rw [← List.drop_eq_getElem_cons hi, List.take_append_drop]
  rw [e] at hn
  exact (List.nodup_append.1 hn).2.2 _ hm _ List.mem_cons_self rfl
theorem getD_at (l : List BookM) (j : Nat) (hl : j < l.length) : l.getD j lineD = l[j] := by simp [List.getD, hl]
theorem sendB_at (bs : List BookM) (j : Nat) (hj : j < bs.length) : sendB 9 bs (9 + (j : Int)) = bs.set j { bs[j] with sent := bs[j].sent + 1 } := by
  unfold sendB
  rw [show (9 + (j : Int) - 9).toNat = j by omega, getD_at bs j hj]
theorem endB_at (bs : List BookM) (j : Nat) (hj : j < bs.length) : endB 9 bs (9 + (j : Int)) = bs.set j { bs[j] with over := true } := by
  unfold endB
  rw [show (9 + (j : Int) - 9).toNat = j by omega, getD_at bs j hj]
theorem sent_line {S : CliS} {bs : List BookM} (h : Sync S bs) (i : Nat) (hi : i < (dueRs S).length) :
    ∃ j, ∃ hj : j < (sentTo S bs i).length, (dueRs S)[i].seq = 9 + j ∧ (sentTo S bs i)[j].over = false ∧ (sentTo S bs i)[j].sent = (dueRs S)[i].given ∧ sentTo S bs (i + 1) = (sentTo S bs i).set j { (sentTo S bs i)[j] with sent := (sentTo S bs i)[j].sent + 1 } := by
  have hs := h.sub (fun r => !decide (dueM S.cfg.pace r.iss S.now ≤ r.done))
  have hr := (dueRs_mem (List.getElem_mem hi)).1
  have hsub : ((dueRs S).take i).map (·.seq) = ((dueRs S).map (·.seq)).take i := List.map_take
  have hnd : (((dueRs S).take i).map (·.seq)).Nodup := by rw [hsub]; exact hs.1.sublist (List.take_sublist _ _)
  have hm : ∀ q ∈ ((dueRs S).take i).map (·.seq), ∃ w ∈ waitsOf 9 bs, w.seq = q := fun q hq => hs.2 q (by rw [hsub] at hq; exact List.mem_of_mem_take hq)
  have hw := sends_waits 9 _ bs hnd hm
  have hmem : seen (dueRs S)[i] ∈ waitsOf 9 (sentTo S bs i) := by
    unfold sentTo
    rw [hw, List.mem_map]
    refine ⟨seen (dueRs S)[i], by rw [← h.calls]; exact List.mem_map.2 ⟨_, hr, rfl⟩, if_neg ?_⟩
    rw [hsub]
    have hi2 : i < ((dueRs S).map (·.seq)).length := by rw [List.length_map]; exact hi
    have hs2 : ((dueRs S).map (·.seq)).Nodup := hs.1
    have := not_mem_take hs2 i hi2
    rw [List.getElem_map] at this
    exact this
  obtain ⟨j, hj, ho, e⟩ := waits_of_mem _ 9 _ hmem
  have e1 : (dueRs S)[i].seq = 9 + (j : Int) := congrArg WaitM.seq e
  have e2 : (dueRs S)[i].given = (sentTo S bs i)[j].sent := congrArg WaitM.given e
  refine ⟨j, hj, e1, ho, e2.symm, ?_⟩
  have e3 : sentTo S bs (i + 1) = sendB 9 (sentTo S bs i) (dueRs S)[i].seq := fold_take (sendB 9) (fun r : CallR => r.seq) (dueRs S) bs i hi
  rw [e3, e1]
  exact sendB_at _ j hj
/-- what was said last: the number of the request before. -/
def lastQ (S : CliS) (i : Nat) : Int := if i = 0 then 0 else ((dueRs S).map (·.seq)).getD (i - 1) 0
theorem lastQ_lt {S : CliS} {bs : List BookM} (h : Sync S bs) (i : Nat) (hi : i < (dueRs S).length) : lastQ S i < (dueRs S)[i].seq := by
  unfold lastQ
  have hr := h.range _ (dueRs_mem (List.getElem_mem hi)).1
  split
  · omega
  · have hp : (S.calls.map seen).Pairwise (fun a b => a.seq < b.seq) := by rw [h.calls]; exact waits_rise bs 9
    rw [List.pairwise_map] at hp
    have hp2 : (dueRs S).Pairwise (fun a b => a.seq < b.seq) := hp.sublist List.filter_sublist
    have h1 : i - 1 < (dueRs S).length := by omega
    have := List.pairwise_iff_getElem.1 hp2 (i - 1) i h1 hi (by omega)
    rw [show ((dueRs S).map (·.seq)).getD (i - 1) 0 = (dueRs S)[i - 1].seq by simp [List.getD, h1]]
    exact this
theorem lastQ_succ (S : CliS) (i : Nat) (hi : i < (dueRs S).length) : lastQ S (i + 1) = (dueRs S)[i].seq := by
  unfold lastQ
  rw [if_neg (by omega), show i + 1 - 1 = i by omega]
  simp [List.getD, hi]
/-- the book behind i outcomes. -/
def endTo (S : CliS) (bs : List BookM) (i : Nat) : List BookM := ((S.outs.take i).map (·.seq)).foldl (endB 9) bs
theorem endTo_length (S : CliS) (bs : List BookM) (i : Nat) : (endTo S bs i).length = bs.length := fold_length (endB_length 9) _ _
theorem endTo_end (S : CliS) (bs : List BookM) : endTo S bs S.outs.length = (S.outs.map (·.seq)).foldl (endB 9) bs := by
  unfold endTo
  rw [List.take_length]
theorem end_line {p : PaceM} {room : Int} {k : Nat} {S : CliS} {bs : List BookM} {wt sd : Int} (h : Half p room k S bs wt sd) (i : Nat) (hi : i < S.outs.length) :
    ∃ j, ∃ hj : j < (endTo S bs i).length, S.outs[i].seq = 9 + j ∧ (endTo S bs i)[j].over = false ∧ S.outs[i].at' ≤ (endTo S bs i)[j].iat + totalM p ∧ (endTo S bs i)[j].iat ≤ S.now ∧ S.outs[i].at' = S.now ∧ endTo S bs (i + 1) = (endTo S bs i).set j { (endTo S bs i)[j] with over := true } := by
  have hi2 : i < (S.outs.map (·.seq)).length := by rw [List.length_map]; exact hi
  have e : S.outs.map (·.seq) = (S.outs.take i).map (·.seq) ++ S.outs[i].seq :: (S.outs.drop (i + 1)).map (·.seq) := by
    conv => lhs; rw [← List.take_append_drop i S.outs, List.drop_eq_getElem_cons hi]
    rw [List.map_append, List.map_cons]
  have hn := h.nodup
  have hm := h.mem
  rw [e] at hn hm
  obtain ⟨w, hw, hq⟩ := ends_open 9 bs _ _ _ hn hm
  have hpre := ends_waits 9 ((S.outs.take i).map (·.seq)) bs (List.nodup_append.1 hn).1 (fun q hq => hm q (List.mem_append_left _ hq))
  have hw0 : w ∈ waitsOf 9 bs := by
    rw [hpre] at hw
    exact (List.mem_filter.1 hw).1
  obtain ⟨j, hj, ho, rfl⟩ := waits_of_mem _ 9 w hw
  obtain ⟨t1, t2⟩ := h.time S.outs[i] (List.getElem_mem hi)
  have t3 := t2 _ hw0 hq
  have e1 : S.outs[i].seq = 9 + (j : Int) := hq.symm
  refine ⟨j, hj, e1, ho, by rw [t1]; exact t3.2, t3.1, t1, ?_⟩
  have e3 : endTo S bs (i + 1) = endB 9 (endTo S bs i) S.outs[i].seq := fold_take (endB 9) (fun o : OutM => o.seq) S.outs bs i hi
  rw [e3, e1]
  exact endB_at _ j hj
/-- a line that is not over is in time. -/
theorem Once.live {p : PaceM} {room : Int} {k : Nat} {S : CliS} {bs : List BookM} {wt sd : Int} (h : Once p room k S bs wt sd) (i : Nat) (hi : i < bs.length) (ho : bs[i].over = false) : S.now < bs[i].iat + totalM p ∧ 0 ≤ bs[i].iat ∧ bs[i].iat ≤ S.now := by
  obtain ⟨r, hr, e⟩ := (h.sync.waits i hi).2 ho
  obtain ⟨j, hj, e1, _, e2, _⟩ := h.sync.line r hr
  have : j = i := by omega
  subst this
  have hf := h.fine r hr
  rw [e2]
  exact ⟨hf.live, hf.i0, hf.i1⟩
theorem openQs_take (bs : List BookM) (i : Nat) (hi : i < bs.length) : openQs 9 (bs.take (i + 1)) = openQs 9 (bs.take i) ++ (if bs[i].over = true then [] else [9 + (i : Int)]) := by
  rw [List.take_succ_eq_append_getElem hi, openQs_append, List.length_take, Nat.min_eq_left (Nat.le_of_lt hi)]
theorem openQs_le (bs : List BookM) : ∀ k, (openQs k bs).length ≤ bs.length := by
  intro k
  rw [openQs_waits, List.length_map]
  exact waits_length bs k
theorem leastM_opens (bs : List BookM) : leastM 9 bs = (match openQs 9 bs with | [] => 9 + (bs.length : Int) | q :: _ => q) := by
  unfold leastM
  rw [openQs_waits]
  cases waitsOf 9 bs <;> rfl
/-- the place of a number in the book. -/
def ofM (bs : List BookM) (n : Int) : Int := if 9 ≤ n ∧ n < 9 + bs.length then n - 9 else -1
theorem ofM_at (bs : List BookM) (i : Nat) (hi : i < bs.length) : ofM bs (9 + i) = i := by
  unfold ofM
  rw [if_pos (by omega)]
  omega
end Go.Proofs.YtbegjpmifcnieaaGreatDoor
