/- A client's life, by a book of its own (ClientOnce): the book's calls that are not over are the client's that wait. No program stands here. -/
import Derived.Test.YtbegjpmifcnieaaGreatDoorBase
namespace Go.Proofs.YtbegjpmifcnieaaGreatDoor

/-- a call that waits, as far as the book knows it. -/
structure WaitM where
  seq : Int
  iss : Int
  given : Int
  deriving DecidableEq
/-- a line of the book: when the call was issued, how often it was sent, is it over? -/
structure BookM where
  iat : Int
  sent : Int
  over : Bool
  deriving DecidableEq
/-- the calls from number k on: those that are not over wait. -/
def waitsOf (k : Int) : List BookM → List WaitM
  | [] => []
  | b :: bs => if b.over = true then waitsOf (k + 1) bs else ⟨k, b.iat, b.sent⟩ :: waitsOf (k + 1) bs
theorem waits_ge (bs : List BookM) : ∀ k w, w ∈ waitsOf k bs → k ≤ w.seq ∧ w.seq < k + bs.length := by
  induction bs with
  | nil => intro k w h; cases h
  | cons b bs ih =>
    intro k w h
    unfold waitsOf at h
    split at h
    · have := ih (k + 1) w h; simp only [List.length_cons]; omega
    · rcases List.mem_cons.1 h with rfl | h
      · simp only [List.length_cons]; omega
      · have := ih (k + 1) w h; simp only [List.length_cons]; omega
theorem waits_append (bs : List BookM) : ∀ k b, waitsOf k (bs ++ [b]) = waitsOf k bs ++ (if b.over = true then [] else [⟨k + bs.length, b.iat, b.sent⟩]) := by
  induction bs with
  | nil => intro k b; simp [waitsOf]
  | cons c bs ih =>
    intro k b
    have e : k + 1 + (bs.length : Int) = k + ((c :: bs).length : Nat) := by simp only [List.length_cons]; omega
    simp only [List.cons_append, waitsOf]
    by_cases h : c.over = true
    · rw [if_pos h, if_pos h, ih, e]
    · rw [if_neg h, if_neg h, ih, e, List.cons_append]
/-- what the book says of a number is what waits under it. -/
theorem waits_mem (bs : List BookM) : ∀ k i (hi : i < bs.length), bs[i].over = false → (⟨k + i, bs[i].iat, bs[i].sent⟩ : WaitM) ∈ waitsOf k bs := by
  induction bs with
  | nil => intro k i hi; simp at hi
  | cons b bs ih =>
    intro k i hi ho
    unfold waitsOf
    match i with
    | 0 =>
      simp only [List.getElem_cons_zero] at ho ⊢
      rw [if_neg (by rw [ho]; decide)]
      simp
    | i + 1 =>
      simp only [List.getElem_cons_succ] at ho ⊢
      have h := ih (k + 1) i (by simpa using hi) ho
      have e : k + 1 + (i : Int) = k + ((i + 1 : Nat) : Int) := by omega
      rw [e] at h
      split
      · exact h
      · exact List.mem_cons_of_mem _ h
theorem waits_of_mem (bs : List BookM) : ∀ k w, w ∈ waitsOf k bs → ∃ i, ∃ hi : i < bs.length, bs[i].over = false ∧ w = ⟨k + i, bs[i].iat, bs[i].sent⟩ := by
  induction bs with
  | nil => intro k w h; cases h
  | cons b bs ih =>
    intro k w h
    unfold waitsOf at h
    have up : w ∈ waitsOf (k + 1) bs → ∃ i, ∃ hi : i < (b :: bs).length, (b :: bs)[i].over = false ∧ w = ⟨k + i, (b :: bs)[i].iat, (b :: bs)[i].sent⟩ := fun h => by
      obtain ⟨i, hi, h1, h2⟩ := ih (k + 1) w h
      refine ⟨i + 1, by simpa using hi, h1, ?_⟩
      rw [h2]
      have e : k + 1 + (i : Int) = k + ((i + 1 : Nat) : Int) := by omega
      rw [e]
      rfl
    split at h
    · exact up h
    · rename_i ho
      rcases List.mem_cons.1 h with rfl | h
      · exact ⟨0, by simp, by simpa using ho, by simp⟩
      · exact up h
/-- the numbers that wait rise. -/
theorem waits_rise (bs : List BookM) : ∀ k, (waitsOf k bs).Pairwise (fun a b => a.seq < b.seq) := by
  induction bs with
  | nil => intro k; exact List.Pairwise.nil
  | cons b bs ih =>
    intro k
    unfold waitsOf
    split
    · exact ih _
    · exact List.pairwise_cons.2 ⟨fun w hw => by have := waits_ge bs (k + 1) w hw; show k < w.seq; omega, ih _⟩
/-- a call that is over waits no longer. -/
theorem waits_over (bs : List BookM) : ∀ k i (hi : i < bs.length), waitsOf k (bs.set i { bs[i] with over := true }) = (waitsOf k bs).filter (fun w => decide (w.seq ≠ k + i)) := by
  induction bs with
  | nil => intro k i hi; simp at hi
  | cons b bs ih =>
    intro k i hi
    match i with
    | 0 =>
      have hall : (waitsOf (k + 1) bs).filter (fun w => decide (w.seq ≠ k + ((0 : Nat) : Int))) = waitsOf (k + 1) bs := by
        rw [List.filter_eq_self]
        intro w hw
        have := waits_ge bs (k + 1) w hw
        exact decide_eq_true (by omega)
      simp only [List.set_cons_zero, List.getElem_cons_zero, waitsOf, if_true]
      split
      · exact hall.symm
      · rw [List.filter_cons_of_neg (by simp)]; exact hall.symm
    | i + 1 =>
      have h := ih (k + 1) i (by simpa using hi)
      have e : k + 1 + (i : Int) = k + ((i + 1 : Nat) : Int) := by omega
      rw [e] at h
      simp only [List.set_cons_succ, List.getElem_cons_succ, waitsOf]
      split
      · exact h
      · have hd : decide ((⟨k, b.iat, b.sent⟩ : WaitM).seq ≠ k + ((i + 1 : Nat) : Int)) = true := decide_eq_true (by show k ≠ _; omega)
        rw [List.filter_cons, hd, if_pos rfl, ← h]
/-- the book's lines changed beside their being over, one by one by their numbers. -/
theorem waits_map (f : Int → BookM → BookM) (g : WaitM → WaitM) (hf : ∀ k b, (f k b).over = b.over) (hg : ∀ k b, b.over = false → (⟨k, (f k b).iat, (f k b).sent⟩ : WaitM) = g ⟨k, b.iat, b.sent⟩) (bs : List BookM) :
    ∀ k, waitsOf k ((List.range bs.length).map fun i : Nat => f (k + i) (bs.getD i ⟨0, 0, false⟩)) = (waitsOf k bs).map g := by
  induction bs with
  | nil => intro k; rfl
  | cons b bs ih =>
    intro k
    rw [List.length_cons, List.range_succ_eq_map, List.map_cons, List.map_map]
    have e : (List.range bs.length).map ((fun i : Nat => f (k + i) ((b :: bs).getD i ⟨0, 0, false⟩)) ∘ Nat.succ) = (List.range bs.length).map fun i : Nat => f (k + 1 + i) (bs.getD i ⟨0, 0, false⟩) := by
      apply List.map_congr_left
      intro i _
      show f (k + ((i + 1 : Nat) : Int)) _ = _
      rw [show k + ((i + 1 : Nat) : Int) = k + 1 + i by omega]
      rfl
    rw [e]
    simp only [waitsOf]
    have e0 : f (k + ((0 : Nat) : Int)) ((b :: bs).getD 0 ⟨0, 0, false⟩) = f k b := by simp
    rw [e0, hf]
    split
    · exact ih (k + 1)
    · rename_i ho
      rw [List.map_cons, ih (k + 1), hg k b (by simpa using ho)]
/-- the least number that waits, or the next one. -/
def leastM (k : Int) (bs : List BookM) : Int := match waitsOf k bs with | [] => k + bs.length | w :: _ => w.seq
theorem leastM_append (k : Int) (bs : List BookM) (b : BookM) (hb : b.over = false) : leastM k (bs ++ [b]) = leastM k bs := by
  unfold leastM
  rw [waits_append, if_neg (by rw [hb]; decide)]
  cases waitsOf k bs with
  | nil => rfl
  | cons w ws => rfl
theorem leastM_ge (k : Int) (bs : List BookM) : k ≤ leastM k bs ∧ leastM k bs ≤ k + bs.length := by
  unfold leastM
  cases h : waitsOf k bs with
  | nil => simp only; omega
  | cons w ws => have := waits_ge bs k w (by rw [h]; simp); simp only; omega
theorem leastM_filter (k : Int) (bs bs' : List BookM) (p : WaitM → Bool) (hl : bs'.length = bs.length) (h : waitsOf k bs' = (waitsOf k bs).filter p) : leastM k bs ≤ leastM k bs' := by
  have hr := waits_rise bs k
  have hle := (leastM_ge k bs).2
  unfold leastM at hle ⊢
  rw [h, hl]
  cases hw : waitsOf k bs with
  | nil => simp
  | cons w ws =>
    rw [hw] at hr hle
    simp only at hle ⊢
    cases hf : (w :: ws).filter p with
    | nil => exact hle
    | cons v vs =>
      have hv : v ∈ w :: ws := (List.mem_filter.1 (by rw [hf]; simp : v ∈ (w :: ws).filter p)).1
      rcases List.mem_cons.1 hv with rfl | hv
      · exact Int.le_refl _
      · have := (List.pairwise_cons.1 hr).1 v hv
        simp only; omega
end Go.Proofs.YtbegjpmifcnieaaGreatDoor

/- A client's life, by a book of its own (ClientOnce): outcomes that come, requests that go out. No program stands here. -/
namespace Go.Proofs.YtbegjpmifcnieaaGreatDoor

def lineD : BookM := ⟨0, 0, false⟩
/-- an outcome of the call q (numbers from k on) comes. -/
def endB (k : Int) (bs : List BookM) (q : Int) : List BookM := bs.set (q - k).toNat { bs.getD (q - k).toNat lineD with over := true }
/-- a request of the call q goes out. -/
def sendB (k : Int) (bs : List BookM) (q : Int) : List BookM := bs.set (q - k).toNat { bs.getD (q - k).toNat lineD with sent := (bs.getD (q - k).toNat lineD).sent + 1 }
theorem endB_length (k : Int) (bs : List BookM) (q : Int) : (endB k bs q).length = bs.length := by unfold endB; simp
theorem sendB_length (k : Int) (bs : List BookM) (q : Int) : (sendB k bs q).length = bs.length := by unfold sendB; simp
theorem fold_length {f : List BookM → Int → List BookM} (hf : ∀ bs q, (f bs q).length = bs.length) (qs : List Int) : ∀ bs, (qs.foldl f bs).length = bs.length := by
  induction qs with
  | nil => intro bs; rfl
  | cons q qs ih => intro bs; rw [List.foldl_cons, ih, hf]
/-- the place of a number that waits. -/
theorem place_of {k : Int} {bs : List BookM} {q : Int} (h : ∃ w ∈ waitsOf k bs, w.seq = q) : ∃ i, ∃ hi : i < bs.length, q = k + i ∧ (q - k).toNat = i ∧ bs[i].over = false := by
  obtain ⟨w, hw, rfl⟩ := h
  obtain ⟨i, hi, ho, rfl⟩ := waits_of_mem bs k w hw
  exact ⟨i, hi, rfl, by show (k + (i : Int) - k).toNat = i; omega, ho⟩
theorem endB_waits {k : Int} {bs : List BookM} {q : Int} (h : ∃ w ∈ waitsOf k bs, w.seq = q) : waitsOf k (endB k bs q) = (waitsOf k bs).filter (fun w => decide (w.seq ≠ q)) := by
  obtain ⟨i, hi, rfl, hq, ho⟩ := place_of h
  have h := waits_over bs k i hi
  unfold endB
  rw [hq]
  rw [show bs.getD i lineD = bs[i] by simp [List.getD, hi]]
  exact h
theorem ends_waits (k : Int) (qs : List Int) : ∀ bs, qs.Nodup → (∀ q ∈ qs, ∃ w ∈ waitsOf k bs, w.seq = q) → waitsOf k (qs.foldl (endB k) bs) = (waitsOf k bs).filter (fun w => decide (w.seq ∉ qs)) := by
  induction qs with
  | nil => intro bs _ _; exact (List.filter_eq_self.2 (fun w _ => decide_eq_true (by simp))).symm
  | cons q qs ih =>
    intro bs hn hm
    obtain ⟨hq, hn⟩ := List.nodup_cons.1 hn
    have h1 := endB_waits (hm q (by simp))
    rw [List.foldl_cons, ih (endB k bs q) hn ?_, h1, List.filter_filter]
    · apply List.filter_congr
      intro w _
      rw [← Bool.decide_and, decide_eq_decide]
      simp only [List.mem_cons, not_or]
      constructor
      · rintro ⟨a, b⟩; exact ⟨b, a⟩
      · rintro ⟨a, b⟩; exact ⟨b, a⟩
    · intro q' hq'
      obtain ⟨w, hw, rfl⟩ := hm q' (by simp [hq'])
      refine ⟨w, ?_, rfl⟩
      rw [h1, List.mem_filter]
      refine ⟨hw, decide_eq_true ?_⟩
      intro e
      exact hq (e ▸ hq')
/-- ahead of each outcome its line is not over. -/
theorem ends_open (k : Int) (bs : List BookM) (pre : List Int) (q : Int) (post : List Int) (hn : (pre ++ q :: post).Nodup) (hm : ∀ p ∈ pre ++ q :: post, ∃ w ∈ waitsOf k bs, w.seq = p) :
    ∃ w ∈ waitsOf k (pre.foldl (endB k) bs), w.seq = q := by
  have hn1 := (List.nodup_append.1 hn)
  rw [ends_waits k pre bs hn1.1 (fun p hp => hm p (by simp [hp]))]
  obtain ⟨w, hw, rfl⟩ := hm q (by simp)
  refine ⟨w, List.mem_filter.2 ⟨hw, decide_eq_true ?_⟩, rfl⟩
  intro h
  exact hn1.2.2 _ h _ (by simp) rfl
theorem waits_set (f : BookM → BookM) (g : WaitM → WaitM) (hf : ∀ b, (f b).over = b.over) (hg : ∀ k b, (⟨k, (f b).iat, (f b).sent⟩ : WaitM) = g ⟨k, b.iat, b.sent⟩) (bs : List BookM) :
    ∀ k i (hi : i < bs.length), waitsOf k (bs.set i (f bs[i])) = (waitsOf k bs).map (fun w => if w.seq = k + i then g w else w) := by
  induction bs with
  | nil => intro k i hi; simp at hi
  | cons b bs ih =>
    intro k i hi
    match i with
    | 0 =>
      have hall : (waitsOf (k + 1) bs).map (fun w => if w.seq = k + ((0 : Nat) : Int) then g w else w) = waitsOf (k + 1) bs := by
        have : ∀ w ∈ waitsOf (k + 1) bs, (if w.seq = k + ((0 : Nat) : Int) then g w else w) = w := fun w hw => by
          have := waits_ge bs (k + 1) w hw
          rw [if_neg (by omega)]
        rw [List.map_congr_left this]
        simp
      simp only [List.set_cons_zero, List.getElem_cons_zero, waitsOf, hf]
      split
      · exact hall.symm
      · rw [List.map_cons, hall, if_pos (by simp), hg]
    | i + 1 =>
      have h := ih (k + 1) i (by simpa using hi)
      have e : k + 1 + (i : Int) = k + ((i + 1 : Nat) : Int) := by omega
      rw [e] at h
      simp only [List.set_cons_succ, List.getElem_cons_succ, waitsOf]
      split
      · exact h
      · rw [List.map_cons, h, if_neg (by show ¬ k = _; omega)]
theorem sendB_waits {k : Int} {bs : List BookM} {q : Int} (h : ∃ w ∈ waitsOf k bs, w.seq = q) : waitsOf k (sendB k bs q) = (waitsOf k bs).map (fun w => if w.seq = q then { w with given := w.given + 1 } else w) := by
  obtain ⟨i, hi, rfl, hq, ho⟩ := place_of h
  have h := waits_set (fun b => { b with sent := b.sent + 1 }) (fun w => { w with given := w.given + 1 }) (fun _ => rfl) (fun _ _ => rfl) bs k i hi
  unfold sendB
  rw [hq]
  rw [show bs.getD i lineD = bs[i] by simp [List.getD, hi]]
  exact h
theorem sends_waits (k : Int) (qs : List Int) : ∀ bs, qs.Nodup → (∀ q ∈ qs, ∃ w ∈ waitsOf k bs, w.seq = q) → waitsOf k (qs.foldl (sendB k) bs) = (waitsOf k bs).map (fun w => if w.seq ∈ qs then { w with given := w.given + 1 } else w) := by
  induction qs with
  | nil => intro bs _ _; simp
  | cons q qs ih =>
    intro bs hn hm
    obtain ⟨hq, hn⟩ := List.nodup_cons.1 hn
    have h1 := sendB_waits (hm q (by simp))
    rw [List.foldl_cons, ih (sendB k bs q) hn ?_, h1, List.map_map]
    · apply List.map_congr_left
      intro w _
      by_cases hw : w.seq = q
      · simp [hw, hq]
      · by_cases hw2 : w.seq ∈ qs
        · simp [hw, hw2]
        · simp [hw, hw2]
    · intro q' hq'
      obtain ⟨w, hw, rfl⟩ := hm q' (by simp [hq'])
      have hne : ¬ w.seq = q := fun e => hq (e ▸ hq')
      refine ⟨w, ?_, rfl⟩
      rw [h1, List.mem_map]
      exact ⟨w, hw, by rw [if_neg hne]⟩
end Go.Proofs.YtbegjpmifcnieaaGreatDoor
