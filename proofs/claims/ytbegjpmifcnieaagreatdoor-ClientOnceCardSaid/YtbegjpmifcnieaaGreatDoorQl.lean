/- ClientOnce: pick; the place of a number in the book. -/
import Derived.Test.YtbegjpmifcnieaaGreatDoorOc
import Derived.Deep.RegionHeld3
import Derived.Deep.CutBlock
import Derived.IntWalk
import Derived.Test.YtbegjpmifcnieaaGreatDoorPc
import Derived.Test.YtbegjpmifcnieaaGreatDoorJu
import Derived.Test.YtbegjpmifcnieaaGreatDoorQc
import Derived.Test.YtbegjpmifcnieaaGreatDoorEi
import Derived.Test.YtbegjpmifcnieaaGreatDoorGe
namespace Go.Proofs.YtbegjpmifcnieaaGreatDoor
open Go.RowKit
set_option linter.unusedVariables false
set_option linter.unusedSimpArgs false

def pickN (c n : Int) : Int := (if c < 0 then -(c + 1) else c) % n
theorem pickN_range (c n : Int) (hn : 0 < n) : 0 ≤ pickN c n ∧ pickN c n < n := ⟨Int.emod_nonneg _ (by omega), Int.emod_lt_of_pos _ hn⟩
def InJ (n : Int) : Prop := -9223372036854775808 ≤ n ∧ n ≤ 9223372036854775807
theorem pick17_any (c n : Int) (w : World) (hc : InJ c) (h0 : 0 < n) (h1 : n ≤ 9223372036854775807) :
    Calls Tryz.prog 13 #[.int .i64 c, .int .i64 n] w fun r w' => r = .returned (.int .i64 (pickN c n)) ∧ w' = w := by
  unfold InJ at hc
  by_cases h : c < 0
  · have e : pickN c n = (-(c + 1)) % n := by unfold pickN; rw [if_pos h]
    have e2 : Int.tmod (-(c + 1)) n = (-(c + 1)) % n := Int.tmod_eq_emod_of_nonneg (by omega)
    rw [e]
    go_enter Tryz.func13, Tryz.ntmps13
    go_wp2
    go_ret
    exact ⟨rfl, rfl⟩
  · have e : pickN c n = c % n := by unfold pickN; rw [if_neg h]
    have e2 : Int.tmod c n = c % n := Int.tmod_eq_emod_of_nonneg (by omega)
    have h' := Int.not_lt.1 h
    rw [e]
    go_enter Tryz.func13, Tryz.ntmps13
    go_wp2
    go_ret
    exact ⟨rfl, rfl⟩
/-- the book's lines, as the walk reads them. -/
theorem LifeI.lines {w0 w : World} {x b : Nat} {S : CliS} {bs : List BookM} {vl : Value} {wt sd : Int} (h : LifeI w0 x b S bs vl wt sd w) :
    ∃ A c, vl = .slice A bs.length c ∧ ∀ i (hi : i < bs.length), ∃ g, A = some ⟨g, 0, none⟩ ∧ w.cell? ⟨g, i * 4, none⟩ = some (.int .i64 (9 + i)) ∧ w.cell? ⟨g, i * 4 + 1, none⟩ = some (.int .i64 bs[i].iat) ∧ w.cell? ⟨g, i * 4 + 2, none⟩ = some (.int .i64 bs[i].sent) ∧ w.cell? ⟨g, i * 4 + 3, none⟩ = some (.bool bs[i].over) := by
  obtain ⟨A, c, e, hr⟩ := h.slice
  refine ⟨A, c, e, fun i hi => ?_⟩
  rcases hr with h0 | ⟨g, rfl⟩
  · rw [h0] at hi; simp at hi
  · subst e
    exact ⟨g, rfl, h.line i hi⟩

set_option maxRecDepth 100000 in
theorem of_any {w0 w : World} {x b : Nat} {S : CliS} {bs : List BookM} {vl : Value} {wt sd : Int} (h : LifeI w0 x b S bs vl wt sd w) (hl : bs.length ≤ 1099511627776) (n : Int) :
    Calls Tryz.prog 79 #[.pointer (some ⟨x, 0, none⟩), .int .i64 n] w fun r w' => r = .returned (.int .i64 (ofM bs n)) ∧ w' = w := by
  obtain ⟨A, c, e, hL⟩ := h.lines
  subst e
  have x1 : w.cell? ⟨x, 1, none⟩ = some (.slice A bs.length c) := cellOf h.box 1
  have HL := Lib.hid hL
  clear h hL
  go_enter Tryz.func79, Tryz.ntmps79
  go_wp2_with fail
  go_loopw [5] (fun i wr => ∃ k : Nat, k ≤ bs.length ∧ i = .int .i64 k ∧ wr = w ∧ Hid (¬ (9 ≤ n ∧ n < 9 + (k : Int)))) (fun i _ => bs.length - (intOf i).toNat)
  case atStart => exact ⟨0, Nat.zero_le _, rfl, rfl, Lib.hid (by omega)⟩
  case round =>
    obtain ⟨k, hk, rfl, hwr, hn⟩ := hrel
    obtain rfl : w = wr := hwr.symm
    by_cases hlt : k < bs.length
    · obtain ⟨g, rfl, l0, _, _, _⟩ := HL.out k hlt
      have hkl : (k : Int) < (bs.length : Nat) := by omega
      by_cases hq : 9 + (k : Int) = n
      · have e : ofM bs n = k := by rw [← hq]; exact ofM_at bs k hlt
        have hq : (9 + (k : Int) == n) = true := beq_iff_eq.2 hq
        have E := Lib.hid e
        clear e
        go_wp2_with fail
        go_ret
        exact ⟨by rw [E.out]; rfl, rfl⟩
      · have hq2 : (9 + (k : Int) == n) = false := beq_eq_false_iff_ne.2 hq
        have HQ := Lib.hid hq
        clear hq
        go_wp2_with fail
        exact ⟨⟨k + 1, by omega, by go_num, trivial, Lib.hid (by have h1 := hn.out; have h2 := HQ.out; omega)⟩, by simp [intOf]; omega⟩
    · have e : ofM bs n = -1 := by
        unfold ofM
        rw [if_neg (by have := hn.out; omega)]
      have E := Lib.hid e
      clear e
      go_wp2_with fail
      go_ret
      exact ⟨by rw [E.out]; rfl, rfl⟩
end Go.Proofs.YtbegjpmifcnieaaGreatDoor

/- ClientOnce: the outcomes that came. -/
namespace Go.Proofs.YtbegjpmifcnieaaGreatDoor
open Go.RowKit
set_option linter.unusedVariables false
set_option linter.unusedSimpArgs false

theorem outRow_get (l : List OutM) : ∀ i (hi : i < l.length) j (_ : j < 9), (outRow l)[i * 9 + j]? = (l[i].cells)[j]? := by
  induction l with
  | nil => intro i hi; simp at hi
  | cons o l ih =>
    intro i hi j hj
    have hl : o.cells.length = 9 := rfl
    show (o.cells ++ outRow l)[i * 9 + j]? = _
    match i with
    | 0 => rw [List.getElem?_append_left (by omega), Nat.zero_mul, Nat.zero_add, List.getElem_cons_zero]
    | i + 1 => rw [List.getElem?_append_right (by omega), show (i + 1) * 9 + j - o.cells.length = i * 9 + j by omega, ih i (by simpa using hi) j hj, List.getElem_cons_succ]
/-- a cell of a row that was handed out. -/
theorem OutRow.cell {w : World} {base e size n : Nat} {A : Option Addr} {xs : List Value} (h : OutRow w base e size A n xs) (i : Nat) (hi : i < n * size) (u : Value) (hu : xs[i]? = some u) : ∃ g, A = some ⟨g, 0, none⟩ ∧ w.cell? ⟨g, i, none⟩ = some u := by
  rcases h with ⟨_, h0⟩ | ⟨g, cur, hA, _, hg, _, ht⟩
  · subst h0; omega
  · refine ⟨g, hA, ?_⟩
    have h1 : (cur.toList.take (n * size))[i]? = some u := by rw [ht]; exact hu
    rw [List.getElem?_take, if_pos hi] at h1
    rw [cellOf hg i]
    simpa using h1
theorem OutRow.fr {w w' : World} {base e size n : Nat} {A : Option Addr} {xs : List Value} {T : Nat → Prop} (h : OutRow w base e size A n xs) (hf : Fr T w w') (hn : ∀ g c, w.heap[g]? = some (.cells c e (0, 0)) → ¬ T g) : OutRow w' base e size A n xs := by
  rcases h with h0 | ⟨g, cur, hA, h1, hg, h3, ht⟩
  · exact .inl h0
  · exact .inr ⟨g, cur, hA, h1, (hf.block g (lt_of_block hg) (hn g cur hg)).trans hg, h3, ht⟩
/-- an outcome, as the walk reads it. -/
theorem OutRow.out {w : World} {base : Nat} {A : Option Addr} {l : List OutM} (h : OutRow w base 146 9 A l.length (outRow l)) (i : Nat) (hi : i < l.length) :
    ∃ g, A = some ⟨g, 0, none⟩ ∧ w.cell? ⟨g, i * 9, none⟩ = some (.int .i64 l[i].seq) ∧ w.cell? ⟨g, i * 9 + 8, none⟩ = some (.int .i64 l[i].at') := by
  have hlt : i * 9 + 8 < l.length * 9 := by omega
  obtain ⟨g, hA, c0⟩ := h.cell (i * 9 + 0) (by omega) (.int .i64 l[i].seq) (by rw [outRow_get l i hi 0 (by decide)]; rfl)
  obtain ⟨g2, hA2, c8⟩ := h.cell (i * 9 + 8) hlt (.int .i64 l[i].at') (by rw [outRow_get l i hi 8 (by decide)]; rfl)
  rw [hA] at hA2
  obtain rfl : g = g2 := by injection hA2 with e; injection e
  exact ⟨g, hA, c0, c8⟩
/-- the outcomes were handed out. -/
theorem LifeI.done {w0 w w' : World} {x b : Nat} {S : CliS} {bs : List BookM} {vl : Value} {wt sd : Int} (h : LifeI w0 x b S bs vl wt sd w) (hc : Cli w' b { S with outs := [], vo := .slice none 0 0 }) (hf : Fr (fun k => k = b) w w') : LifeI w0 x b { S with outs := [], vo := .slice none 0 0 } bs vl wt sd w' := by
  refine h.step hc hf (fun k e => .inl e) (fun q hq => .inl ?_)
  rcases hq with e | e | e | e | e | e
  · exact .inl e
  · exact .inr (.inl e)
  · exact .inr (.inr (.inl e))
  · exact .inr (.inr (.inr (.inl e)))
  · cases e
  · exact .inr (.inr (.inr (.inr (.inr e))))
/-- the book behind i outcomes, in memory. -/
structure EndI (w0 : World) (x b : Nat) (S : CliS) (bs : List BookM) (vl : Value) (wt sd : Int) (A : Option Addr) (i : Nat) (w : World) : Prop where
  life : LifeI w0 x b { S with outs := [], vo := .slice none 0 0 } (endTo S bs i) vl wt sd w
  row : OutRow w 0 146 9 A S.outs.length (outRow S.outs)

theorem LifeI.free {w0 w : World} {x b : Nat} {S : CliS} {bs : List BookM} {g c : Nat} {wt sd : Int} (h : LifeI w0 x b S bs (.slice (some ⟨g, 0, none⟩) bs.length c) wt sd w) : ∃ cur, w.heap[g]? = some (.cells cur 164 (0, 0)) := by
  rcases h.row.2 with ⟨h0, _⟩ | ⟨g', cap, cur, h0, _, hg, _⟩
  · cases h0
  · injection h0 with h0
    injection h0 with h0
    injection h0 with h0
    subst h0
    exact ⟨cur, hg⟩
theorem EndI.next {w0 w w3 : World} {x b : Nat} {S : CliS} {bs : List BookM} {vl : Value} {wt sd : Int} {A : Option Addr} {j q g c : Nat} (h : EndI w0 x b S bs vl wt sd A j w) (hf : Fr (fun _ => False) w w3) (hq : q < (endTo S bs j).length) (hv : vl = .slice (some ⟨g, 0, none⟩) (endTo S bs j).length c)
    (hs : endTo S bs (j + 1) = (endTo S bs j).set q { (endTo S bs j)[q] with over := true }) : EndI w0 x b S bs vl wt sd A (j + 1) (w3.setCell ⟨g, q * 4 + 3, none⟩ (.bool true)) := by
  subst hv
  obtain ⟨cur, hg⟩ := (h.life.grown hf).free
  refine ⟨?_, (h.row.fr hf (fun _ _ _ => id)).fr ((Fr.refl (fun k => k = g) w3).setCell (p := ⟨g, q * 4 + 3, none⟩) (.inl rfl) _) (fun g' c' hc e => ?_)⟩
  · have := (h.life.grown hf).setLine q hq { (endTo S bs j)[q] with over := true } 3 (by decide) (.bool true) rfl
    rw [hs]
    exact this
  · rw [e, hg] at hc
    simp at hc

set_option maxRecDepth 100000 in
set_option maxHeartbeats 4000000 in
theorem Life_ends {w0 w : World} {x b : Nat} {S : CliS} {bs : List BookM} {vl : Value} {wt sd : Int} {p : PaceM} {room : Int} {k : Nat} (h : LifeI w0 x b S bs vl wt sd w) (hh : Half p room k S bs wt sd) :
    Calls Tryz.prog 19 #[.pointer (some ⟨x, 0, none⟩), .agg #[.int .i64 p.base, .int .i64 p.cap, .int .i64 p.tries]] w fun e w' => e = .returned (.bool true) ∧ LifeI w0 x b { S with outs := [], vo := .slice none 0 0 } ((S.outs.map (·.seq)).foldl (endB 9) bs) vl wt sd w' := by
  rw [← endTo_end]
  have HX := Lib.hid h
  have HH := Lib.hid hh
  have x0 : w.cell? ⟨x, 0, none⟩ = some (.pointer (some ⟨b, 0, none⟩)) := cellOf h.box 0
  have y0 : ∀ A, (w.alloc A).cell? ⟨x, 0, none⟩ = some (.pointer (some ⟨b, 0, none⟩)) := fun A => Lib.cell?_alloc_some _ x0
  have hb0 := Lib.hid (heap_alloc_new w (.cells #[.int .i64 p.base, .int .i64 p.cap, .int .i64 p.tries] 23))
  have h1 := h.grown ((Fr.refl (fun _ => False) w).alloc (.cells #[.int .i64 p.base, .int .i64 p.cap, .int .i64 p.tries] 23))
  have HD := Lib.hid (Done_any h1.cli)
  have H1 := Lib.hid h1
  clear h hh h1 x0
  go_enter Tryz.func19, Tryz.ntmps19
  go_wp2_with fail
  refine HD.out.mono ?_
  rintro e w1 ⟨A, rfl, hc1, hrow1, _, hf1⟩
  have hbz : b < w.heap.size := lt_of_block HX.out.cli.box
  have hP := blockMove hb0 hf1 (by omega)
  have HI : Hid (EndI w0 x b S bs vl wt sd A 0 w1) := Lib.hid ⟨by unfold endTo; exact H1.out.done hc1 hf1, hrow1⟩
  have HT := Lib.hid (fun w => Total_any p w)
  have hr := HH.out.right
  have ⟨t0, t1⟩ := totalM_bounds p
  have hS0 := HH.out.now0
  have hS1 : S.now ≤ 33554432 := by have h1 := HH.out.now1; have h2 := HH.out.k1; omega
  have hou : S.outs.length ≤ 33554432 := HH.out.room
  have hbl : bs.length ≤ 33554432 := by have h1 := HH.out.len; have h2 := HH.out.k1; omega
  unfold paceV at HT
  clear y0 hc1 hrow1 hf1 hb0 HD hr
  generalize htot : totalM p = tot at *
  have HTM := Lib.hid htot
  clear htot
  go_wp2_with fail
  go_loopw [6, 7] (fun i kk wr => ∃ j : Nat, j ≤ S.outs.length ∧ i = .int .i64 j ∧ (∃ v : Value, kk = v) ∧ Hid (EndI w0 x b S bs vl wt sd A j wr) ∧ Hid (wr.heap[w.heap.size]? = some (.cells #[.int .i64 p.base, .int .i64 p.cap, .int .i64 p.tries] 23 (0, 0)))) (fun i _ _ => S.outs.length - (intOf i).toNat)
  case atStart => exact ⟨0, Nat.zero_le _, rfl, ⟨_, rfl⟩, HI, hP⟩
  case round =>
    obtain ⟨j, hj, rfl, ⟨vk, rfl⟩, hI, hPr⟩ := hrel
    clear HI hP
    by_cases hlt : j < S.outs.length
    · obtain ⟨q, hq, e1, ho, ht, hi1, htn, hset⟩ := end_line HH.out j hlt
      rw [HTM.out] at ht
      obtain ⟨go, rfl, o0, o8⟩ := hI.out.row.out j hlt
      obtain ⟨A2, c2, e2, hL⟩ := hI.out.life.lines
      obtain ⟨g, rfl, l0, l1, l2, l3⟩ := hL q hq
      have HOf := Lib.hid (of_any hI.out.life (by rw [endTo_length]; omega) (9 + (q : Int)))
      rw [ofM_at _ q hq] at HOf
      have hqz : q < bs.length := by rw [endTo_length] at hq; exact hq
      have x0 : wr.cell? ⟨x, 0, none⟩ = some (.pointer (some ⟨b, 0, none⟩)) := cellOf hI.out.life.box 0
      have x1 : wr.cell? ⟨x, 1, none⟩ = some (.slice (some ⟨g, 0, none⟩) bs.length c2) := by rw [endTo_length] at e2; rw [← e2]; exact cellOf hI.out.life.box 1
      have p0 : wr.cell? ⟨w.heap.size, 0, none⟩ = some (.int .i64 p.base) := cellOf hPr.out 0
      have p1 : wr.cell? ⟨w.heap.size, 1, none⟩ = some (.int .i64 p.cap) := cellOf hPr.out 1
      have p2 : wr.cell? ⟨w.heap.size, 2, none⟩ = some (.int .i64 p.tries) := cellOf hPr.out 2
      rw [e1] at o0
      rw [ho] at l3
      have HS := Lib.hid (And.intro hset (And.intro e2 ho))
      have HQ := Lib.hid hq
      clear hset hL l0 l2 e1 e2 ho
      generalize (endTo S bs j)[q].iat = ia at l1 ht hi1
      generalize S.outs[j].at' = ta at o8 ht htn
      subst htn
      have hwt : IntKind.i64.wrap (ia + tot) = ia + tot := IntWalk.i64_in _ (by omega)
      have hq0 : (q : Int) < (bs.length : Nat) := by omega
      have hj0 : (j : Int) < (S.outs.length : Nat) := by omega
      have hc1 : ¬ (ia + tot < S.now) := by omega
      have hc2 : ¬ ((q : Int) < 0) := by omega
      have hd1 : decide (ia + tot < S.now) = false := decide_eq_false hc1
      have hd2 : decide ((q : Int) < 0) = false := decide_eq_false hc2
      clear hc1 hc2
      have HNow : Hid (∀ w', Fr (fun _ => False) wr w' → Calls Tryz.prog 54 #[.pointer (some ⟨b, 0, none⟩)] w' fun r w2 => r = .returned (.int .i64 S.now) ∧ w2 = w') := Lib.hid (fun w' hf => (Now_any (hI.out.life.grown hf).cli).mono (fun _ _ h => h))
      go_upto_region 6 with (go_at_call 79; refine HOf.out.mono ?_; rintro e w' ⟨rfl, hw⟩; obtain rfl : wr = w' := hw.symm)
      go_cut [69] from 26 to 69 (fun v wx => v = .bool false ∧ Hid (Fr (fun _ => False) wr wx))
      case first => as_aux_lemma =>
        go_region_held3 (fun w' => w'.cell? ⟨x, 0, none⟩ = some (.pointer (some ⟨b, 0, none⟩)) ∧ w'.cell? ⟨x, 1, none⟩ = some (.slice (some ⟨g, 0, none⟩) bs.length c2) ∧ w'.cell? ⟨g, q * 4 + 3, none⟩ = some (.bool false) ∧ w'.cell? ⟨g, q * 4 + 1, none⟩ = some (.int .i64 ia) ∧ w'.cell? ⟨go, j * 9 + 8, none⟩ = some (.int .i64 S.now) ∧ w'.cell? ⟨w.heap.size, 0, none⟩ = some (.int .i64 p.base) ∧ w'.cell? ⟨w.heap.size, 1, none⟩ = some (.int .i64 p.cap) ∧ w'.cell? ⟨w.heap.size, 2, none⟩ = some (.int .i64 p.tries))
              (first
                | go_keep
                | exact ⟨k0, k1, k2, k3, k4, k5, k6, k7⟩)
              (first
                | (go_at_call 84; refine (HT.out _).mono ?_; rintro e w3 ⟨rfl, hf3⟩; have hF3 : Fr (fun _ => False) wr w3 := ((Fr.refl (fun _ => False) wr).drew).trans hf3; have kk : ∀ (a : Addr) v, wr.cell? a = some v → w3.cell? a = some v := fun a v hc => (World.cell?_of_block (w := wr) (hF3.block _ (World.block_lt_of_cell? _ _ hc) id)).trans hc; have k0 := kk _ _ x0; have k1 := kk _ _ x1; have k2 := kk _ _ l3; have k3 := kk _ _ l1; have k4 := kk _ _ o8; have k5 := kk _ _ p0; have k6 := kk _ _ p1; have k7 := kk _ _ p2; clear kk hf3)
                | (go_at_call 54; refine (HNow.out _ hF3).mono ?_; rintro e w' ⟨rfl, hw⟩; obtain rfl : w3 = w' := hw.symm))
        go_wp2_with fail
        go_meet
        case rel => exact ⟨rfl, Lib.hid hF3⟩
      case rest =>
      obtain ⟨rfl, hF3'⟩ := hcut
      have hF3 := hF3'.out
      have l3c : wc.cell? ⟨g, q * 4 + 3, none⟩ = some (.bool false) := (World.cell?_of_block (w := wr) (hF3.block _ (World.block_lt_of_cell? _ _ l3) id)).trans l3
      have x1 : wc.cell? ⟨x, 1, none⟩ = some (.slice (some ⟨g, 0, none⟩) bs.length c2) := (World.cell?_of_block (w := wr) (hF3.block _ (lt_of_block hI.out.life.box) id)).trans x1
      have HN := Lib.hid (hI.out.next hF3 HQ.out HS.out.2.1 HS.out.1)
      obtain ⟨cur, hgf⟩ := ((HS.out.2.1 ▸ hI.out.life).grown hF3).free
      have fz : wc.frozen? ⟨g, q * 4 + 3, none⟩ = false := freeOf hgf _
      have hP3 : Hid (wc.heap[w.heap.size]? = some (.cells #[.int .i64 p.base, .int .i64 p.cap, .int .i64 p.tries] 23 (0, 0))) := Lib.hid ((hF3.block _ (lt_of_block hPr.out) id).trans hPr.out)
      have hPn : Hid ((wc.setCell ⟨g, q * 4 + 3, none⟩ (.bool true)).heap[w.heap.size]? = some (.cells #[.int .i64 p.base, .int .i64 p.cap, .int .i64 p.tries] 23 (0, 0))) := Lib.hid ((Below.heap_setCell _ _ _ _ (fun e => by
        have e : w.heap.size = g := e
        have := hP3.out
        rw [e, hgf] at this
        simp at this)).trans hP3.out)
      clear hF3 hF3' hgf hd1 hd2 hwt HNow
      go_wp2_with fail
      exact ⟨⟨j + 1, by omega, by go_num, ⟨_, rfl⟩, HN.out, hPn⟩, by simp [intOf]; omega⟩
    · obtain rfl : j = S.outs.length := by omega
      have HE := Lib.hid hI.out.life
      go_wp2_with fail
      go_ret
      exact ⟨rfl, HE.out⟩
end Go.Proofs.YtbegjpmifcnieaaGreatDoor

/- ClientOnce: the requests that are given: what is read of them. -/
namespace Go.Proofs.YtbegjpmifcnieaaGreatDoor
open Go.RowKit
set_option linter.unusedVariables false
set_option linter.unusedSimpArgs false

theorem packRow_get (l : List PackM) : ∀ i (hi : i < l.length) j (_ : j < 3), (packRow l)[i * 3 + j]? = (l[i].cells)[j]? := by
  induction l with
  | nil => intro i hi; simp at hi
  | cons o l ih =>
    intro i hi j hj
    have hl : o.cells.length = 3 := rfl
    show (o.cells ++ packRow l)[i * 3 + j]? = _
    match i with
    | 0 => rw [List.getElem?_append_left (by omega), Nat.zero_mul, Nat.zero_add, List.getElem_cons_zero]
    | i + 1 => rw [List.getElem?_append_right (by omega), show (i + 1) * 3 + j - o.cells.length = i * 3 + j by omega, ih i (by simpa using hi) j hj, List.getElem_cons_succ]
/-- a packet, as the walk reads it. -/
theorem OutRow.pack {w : World} {base : Nat} {A : Option Addr} {l : List PackM} (h : OutRow w base 118 3 A l.length (packRow l)) (i : Nat) (hi : i < l.length) :
    ∃ g, A = some ⟨g, 0, none⟩ ∧ w.cell? ⟨g, i * 3, none⟩ = some (.int .i64 l[i].src) ∧ w.cell? ⟨g, i * 3 + 1, none⟩ = some (.int .i64 l[i].dst) ∧ w.cell? ⟨g, i * 3 + 2, none⟩ = some (.string l[i].data) := by
  obtain ⟨g, hA, c0⟩ := h.cell (i * 3 + 0) (by omega) (.int .i64 l[i].src) (by rw [packRow_get l i hi 0 (by decide)]; rfl)
  obtain ⟨g2, hA2, c1⟩ := h.cell (i * 3 + 1) (by omega) (.int .i64 l[i].dst) (by rw [packRow_get l i hi 1 (by decide)]; rfl)
  obtain ⟨g3, hA3, c2⟩ := h.cell (i * 3 + 2) (by omega) (.string l[i].data) (by rw [packRow_get l i hi 2 (by decide)]; rfl)
  rw [hA] at hA2 hA3
  obtain rfl : g = g2 := by injection hA2 with e; injection e
  obtain rfl : g = g3 := by injection hA3 with e; injection e
  exact ⟨g, hA, c0, c1, c2⟩
theorem due_twice (p : PaceM) (now : Int) (l : List CallR) : (l.map (dueCall p now)).map (dueCall p now) = l.map (dueCall p now) := by
  rw [List.map_map]
  apply List.map_congr_left
  intro r _
  show dueCall p now (dueCall p now r) = dueCall p now r
  have h := due_done p now r
  generalize dueCall p now r = q at *
  unfold dueCall
  rw [if_pos h]
def dueT (S : CliS) : CliS := { S with calls := S.calls.map (dueCall S.cfg.pace S.now) }
theorem dueT_foot {b : Nat} {S : CliS} {q : Nat} (h : Foot b (dueT S) q) : Foot b S q := by
  rcases h with e | e | e | e | e | ⟨r, hr, hm⟩
  · exact .inl e
  · exact .inr (.inl e)
  · exact .inr (.inr (.inl e))
  · exact .inr (.inr (.inr (.inl e)))
  · exact .inr (.inr (.inr (.inr (.inl e))))
  · obtain ⟨r', hr', rfl⟩ := List.mem_map.1 hr
    exact .inr (.inr (.inr (.inr (.inr ⟨r', hr', by rw [← (dueCall_same S.cfg.pace S.now r').blocks]; exact hm⟩))))
/-- the requests were given. -/
theorem LifeI.dued {w0 w w' : World} {x b : Nat} {S : CliS} {bs : List BookM} {vl : Value} {wt sd : Int} (h : LifeI w0 x b S bs vl wt sd w) (hc : Cli w' b (dueT S)) (hf : Fr (fun k => ∃ r ∈ S.calls, k = r.k) w w') : LifeI w0 x b (dueT S) bs vl wt sd w' :=
  h.step hc hf (fun k ⟨r, hr, e⟩ => .inr (.inr (.inr (.inr (.inr ⟨r, hr, by rw [e]; simp [CallR.blocks]⟩))))) (fun q hq => .inl (dueT_foot hq))
/-- what ParseCall and Judge tell of a request of this life's. -/
theorem request_reads {p : PaceM} {room : Int} {k : Nat} {S : CliS} {bs : List BookM} {wt sd : Int} (h : Once p room k S bs wt sd) (r : CallR) (hr : r ∈ S.calls) (w : World) (hg : ErrT w) :
    ∃ mk : ByteArray, (Calls Tryz.prog 101 #[.string (requestM S r (waterM S))] w fun e w' => e = .returned (.tuple #[.agg #[.int .i64 r.seq, .int .i64 2, .int .i64 r.prog, .int .i64 r.vers, .int .i64 r.proc, .int .i64 1296126539, .string mk, .int .i64 0, .string ByteArray.empty, .string r.args], .int .i64 0]) ∧ Fr (fun _ => False) w w') ∧
      ∀ w1, ErrT w1 → Calls Tryz.prog 104 #[.agg #[.int .i64 r.seq, .int .i64 2, .int .i64 r.prog, .int .i64 r.vers, .int .i64 r.proc, .int .i64 1296126539, .string mk, .int .i64 0, .string ByteArray.empty, .string r.args]] w1 fun e w' => ∃ A c, e = .returned (.tuple #[.agg #[.int .i64 5, .int .i64 r.seq, .int .i64 (waterM S), .int .i64 0, .string ByteArray.empty, .int .i64 0, .int .i64 0, .slice A 0 c], .bool true, .int .i64 0]) ∧ Fr (fun _ => False) w1 w' := by
  obtain ⟨h1, h2, h3⟩ := h.parsed r hr
  refine ⟨markStr (cmarkOf S r (waterM S)), ?_, fun w1 hg1 => ?_⟩
  · have := ParseCall_any (requestM S r (waterM S)) w hg (by omega)
    rw [h1] at this
    exact this
  · have hz := markStr_le (h.mark r hr)
    have := Judge_any (callOf S r (waterM S)) w1 hg1 (show (markStr (cmarkOf S r (waterM S))).size ≤ _ by omega)
    rw [h2] at this
    refine Calls.mono (show Calls Tryz.prog 104 #[.agg (callCells (callOf S r (waterM S)))] w1 _ from this) ?_
    rintro e w' ⟨hf, gv, rfl, hI⟩
    obtain ⟨A, c, rfl⟩ := hI.slice
    have hc : S.cfg = cfgOnce p room := h.cfg
    refine ⟨A, c, ?_, hf⟩
    unfold markVv cmarkOf
    rw [hc]
    rfl
end Go.Proofs.YtbegjpmifcnieaaGreatDoor

/- ClientOnce: the requests that are given, walked. -/
namespace Go.Proofs.YtbegjpmifcnieaaGreatDoor
open Go.RowKit
set_option linter.unusedVariables false
set_option linter.unusedSimpArgs false

structure SendI (w0 : World) (x b : Nat) (S : CliS) (bs : List BookM) (vl : Value) (wt : Int) (A : Option Addr) (base j : Nat) (w : World) : Prop where
  life : ∃ sd, sd ≤ waterM S ∧ LifeI w0 x b (dueT S) (sentTo S bs j) vl wt sd w
  row : OutRow w base 118 3 A (dueRs S).length (packRow ((dueRs S).map (packOf S (waterM S))))
theorem due_gives {p : PaceM} {room : Int} {k : Nat} {S : CliS} {bs : List BookM} {wt sd : Int} {w : World} {b : Nat} (hh : Once p room k S bs wt sd) (h : Cli w b S) (hg : ErrT w) :
    Calls Tryz.prog 50 #[.pointer (some ⟨b, 0, none⟩)] w fun e w' => ∃ A, e = .returned (.slice A (dueRs S).length (dueRs S).length) ∧ Cli w' b (dueT S) ∧ OutRow w' w.heap.size 118 3 A (dueRs S).length (packRow ((dueRs S).map (packOf S (waterM S)))) ∧ Fr (fun k => ∃ r ∈ S.calls, k = r.k) w w' := by
  have hp : S.cfg.pace = p := by rw [hh.cfg]; rfl
  have := Due_any h hg (by rw [hp]; exact hh.right) hh.callN (by have h1 := hh.sync.length; have h2 := hh.len; have h3 := hh.k1; omega) (by rw [hh.cfg]; exact Nat.zero_le _) (by rw [hh.cfg]; exact Nat.zero_le _)
  have e : dueOuts S (waterM S) S.calls = (dueRs S).map (packOf S (waterM S)) := dueOuts_rs S (waterM S) S.calls
  rw [e, List.length_map] at this
  exact this

set_option maxRecDepth 100000 in
set_option maxHeartbeats 4000000 in
theorem Life_due {w0 w : World} {x b : Nat} {S : CliS} {bs : List BookM} {vl : Value} {wt sd : Int} {p : PaceM} {room : Int} {k : Nat} (h : LifeI w0 x b S bs vl wt sd w) (hh : Once p room k S bs wt sd) (hg0 : ErrT w0) :
    Calls Tryz.prog 81 #[.pointer (some ⟨x, 0, none⟩), .agg #[.int .i64 p.base, .int .i64 p.cap, .int .i64 p.tries]] w fun e w' => e = .returned (.bool true) ∧ ∃ sd', sd' ≤ waterM S ∧ LifeI w0 x b (dueT S) ((dueQs S).foldl (sendB 9) bs) vl wt sd' w' := by
  rw [← sentTo_end]
  have HH := Lib.hid hh
  have HG0 := Lib.hid hg0
  have hf1 := (Fr.refl (fun _ => False) w).alloc (.cells #[.int .i64 p.base, .int .i64 p.cap, .int .i64 p.tries] 23)
  have hp1 := Lib.hid (heap_alloc_new w (.cells #[.int .i64 p.base, .int .i64 p.cap, .int .i64 p.tries] 23))
  have HX := Lib.hid (h.grown hf1)
  have HD := Lib.hid (due_gives hh HX.out.cli (hg0.fr HX.out.fr id))
  have y0 : ∀ A, (w.alloc A).cell? ⟨x, 0, none⟩ = some (.pointer (some ⟨b, 0, none⟩)) := fun A => Lib.cell?_alloc_some _ (cellOf h.box 0)
  have HPn := Lib.hid (fun (r : CallR) (hr : r ∈ S.calls) => (show r.k ≠ w.heap.size from fun e => by have := lt_of_block (h.cli.rest.each r hr).box; omega))
  have hbl : bs.length ≤ 33554432 := by have h1 := HH.out.len; have h2 := HH.out.k1; omega
  have hnl : (dueRs S).length ≤ 33554432 := by
    have h1 := List.length_filter_le (fun r => !decide (dueM S.cfg.pace r.iss S.now ≤ r.done)) S.calls
    have h2 : (dueRs S).length = (S.calls.filter (fun r => !decide (dueM S.cfg.pace r.iss S.now ≤ r.done))).length := rfl
    have h3 := HH.out.sync.length
    omega
  clear h hh hg0 hf1
  go_enter Tryz.func81, Tryz.ntmps81
  go_wp2_with fail
  refine HD.out.mono ?_
  rintro e w1 ⟨A, rfl, hc1, hrow1, hf1⟩
  have hpw := Lib.hid ((hf1.block _ (by simp) (fun ⟨r, hr, e⟩ => HPn.out r hr e.symm)).trans hp1.out)
  have HI : Hid (SendI w0 x b S bs vl wt A (w.alloc (.cells #[.int .i64 p.base, .int .i64 p.cap, .int .i64 p.tries] 23)).heap.size 0 w1) := Lib.hid ⟨⟨sd, HH.out.sd, HX.out.dued hc1 hf1⟩, hrow1⟩
  generalize (w.alloc (.cells #[.int .i64 p.base, .int .i64 p.cap, .int .i64 p.tries] 23)).heap.size = base at *
  clear hc1 hrow1 hf1 HD y0 hp1 HPn
  go_wp2_with fail
  go_loopw [6, 7, 8, 9, 10, 11, 12, 13] (fun la i c e m is why kk wr => ∃ j : Nat, j ≤ (dueRs S).length ∧ i = .int .i64 j ∧ la = .int .i64 (lastQ S j) ∧ (∃ v : Value, c = v) ∧ (∃ v : Value, e = v) ∧ (∃ v : Value, m = v) ∧ (∃ v : Value, is = v) ∧ (∃ v : Value, why = v) ∧ (∃ v : Value, kk = v) ∧
    Hid (SendI w0 x b S bs vl wt A base j wr) ∧ Hid (wr.heap[w.heap.size]? = some (.cells #[.int .i64 p.base, .int .i64 p.cap, .int .i64 p.tries] 23 (0, 0)))) (fun _ i _ _ _ _ _ _ _ => (dueRs S).length - (intOf i).toNat)
  case atStart => exact ⟨0, Nat.zero_le _, rfl, rfl, ⟨_, rfl⟩, ⟨_, rfl⟩, ⟨_, rfl⟩, ⟨_, rfl⟩, ⟨_, rfl⟩, ⟨_, rfl⟩, HI, hpw⟩
  case round => as_aux_lemma =>
    obtain ⟨j, hj, rfl, rfl, ⟨vc, rfl⟩, ⟨ve, rfl⟩, ⟨vm, rfl⟩, ⟨vi, rfl⟩, ⟨vy, rfl⟩, ⟨vk, rfl⟩, HI, HP⟩ := hrel
    by_cases hlt : j < (dueRs S).length
    · obtain ⟨q, hq, e1, ho, hsent, hset⟩ := sent_line HH.out.sync j hlt
      obtain ⟨sdj, hsd, hlife⟩ := HI.out.life
      have HLi := Lib.hid hlife
      have hrm := (dueRs_mem (List.getElem_mem hlt)).1
      have hdone := (dueRs_mem (List.getElem_mem hlt)).2
      have hfine := HH.out.fine _ hrm
      have hlast := lastQ_lt HH.out.sync j hlt
      have hsucc := Lib.hid (lastQ_succ S j hlt)
      have hwle := HH.out.sync.water_le _ hrm
      have hmine := HH.out.mine _ hrm
      have hdm := (dueM_le S.cfg.pace (dueRs S)[j].iss S.now (by rw [HH.out.cfg]; have := HH.out.right.t1; show 0 ≤ p.tries; omega)).2
      have htr : S.cfg.pace.tries = p.tries := by rw [HH.out.cfg]; rfl
      obtain ⟨mk, hPC, hJ⟩ := request_reads HH.out _ hrm wr (HG0.out.fr hlife.fr id)
      have hpk := HI.out.row
      rw [show (dueRs S).length = ((dueRs S).map (packOf S (waterM S))).length by rw [List.length_map]] at hpk
      obtain ⟨gp, rfl, d0, d1, d2⟩ := hpk.pack j (by rw [List.length_map]; exact hlt)
      rw [List.getElem_map] at d0 d1 d2
      have haddr : (packOf S (waterM S) (dueRs S)[j]).src = 65537 := by show S.cfg.addr = _; rw [HH.out.cfg]; rfl
      have hdst : (packOf S (waterM S) (dueRs S)[j]).dst = 65636 := hmine.dst
      rw [haddr] at d0
      rw [hdst] at d1
      have d2 : wr.cell? ⟨gp, j * 3 + 2, none⟩ = some (.string (requestM S (dueRs S)[j] (waterM S))) := d2
      have hg1 := hfine.gd
      have hg2 := hfine.dt
      have hg3 := hfine.g0
      generalize requestM S (dueRs S)[j] (waterM S) = data at *
      generalize hr : (dueRs S)[j] = r at *
      obtain ⟨A2, c2, e2, hL⟩ := HLi.out.lines
      obtain ⟨g, rfl, l0, l1, l2, l3⟩ := hL q hq
      rw [sentTo_length] at e2
      rw [ho] at l3
      rw [hsent] at l2
      have hgz := World.block_lt_of_cell? _ _ l3
      have HS := Lib.hid (And.intro hset (And.intro e2 (And.intro hsent hq)))
      have x0 : wr.cell? ⟨x, 0, none⟩ = some (.pointer (some ⟨b, 0, none⟩)) := cellOf HLi.out.box 0
      have x1 : wr.cell? ⟨x, 1, none⟩ = some (.slice (some ⟨g, 0, none⟩) bs.length c2) := e2 ▸ cellOf HLi.out.box 1
      have x3 : wr.cell? ⟨x, 3, none⟩ = some (.int .i64 sdj) := cellOf HLi.out.box 3
      have p2 : wr.cell? ⟨w.heap.size, 2, none⟩ = some (.int .i64 p.tries) := cellOf HP.out 2
      have T : Hid (∀ w' : World, Fr (fun _ => False) wr w' → ∀ (a : Addr) v, wr.cell? a = some v → w'.cell? a = some v) := Lib.hid (fun w' hf a v hc => (World.cell?_of_block (w := wr) (hf.block _ (World.block_lt_of_cell? _ _ hc) id)).trans hc)
      have X0 := Lib.hid x0
      have X1 := Lib.hid x1
      have X3 := Lib.hid x3
      have P2 := Lib.hid p2
      have L2 := Lib.hid l2
      have L3 := Lib.hid l3
      have D0 := Lib.hid d0
      have D1 := Lib.hid d1
      have HPC := Lib.hid hPC
      have HE1 := Lib.hid e1
      have HJ := Lib.hid hJ
      have hjl : (j : Int) < ((dueRs S).length : Nat) := by omega
      clear hL l0 l1 e2 hset hsent ho hlife hpk haddr hdst hPC hJ e1 hmine hfine x3 p2 l2 l3 d0 d1 x1
      go_wp2_with fail
      refine HPC.out.mono ?_
      rintro e w2 ⟨rfl, hf2⟩
      have hfa : Fr (fun _ => False) wr (w2.alloc (.cells #[.int .i64 r.seq, .int .i64 2, .int .i64 r.prog, .int .i64 r.vers, .int .i64 r.proc, .int .i64 1296126539, .string mk, .int .i64 0, .string ByteArray.empty, .string r.args] 85)) := hf2.alloc _
      have hca := Lib.hid (heap_alloc_new w2 (.cells #[.int .i64 r.seq, .int .i64 2, .int .i64 r.prog, .int .i64 r.vers, .int .i64 r.proc, .int .i64 1296126539, .string mk, .int .i64 0, .string ByteArray.empty, .string r.args] 85))
      have HJ2 := Lib.hid (HJ.out _ (HG0.out.fr (HLi.out.fr.trans hfa) id))
      have HZ2 := Lib.hid (show wr.heap.size ≤ w2.heap.size from hf2.size)
      clear hf2 HPC HJ d2
      go_wp2_with fail
      generalize w2.alloc (.cells #[.int .i64 r.seq, .int .i64 2, .int .i64 r.prog, .int .i64 r.vers, .int .i64 r.proc, .int .i64 1296126539, .string mk, .int .i64 0, .string ByteArray.empty, .string r.args] 85) = wa at *
      refine HJ2.out.mono ?_
      rintro e w3 ⟨AJ, cJ, rfl, hf3⟩
      have hcb := blockMove hca hf3 id
      have hf4 : Fr (fun _ => False) wr (w3.alloc (.cells #[.int .i64 5, .int .i64 r.seq, .int .i64 (waterM S), .int .i64 0, .string ByteArray.empty, .int .i64 0, .int .i64 0, .slice AJ 0 cJ] 132)) := (hfa.trans hf3).alloc _
      have hmb := Lib.hid (heap_alloc_new w3 (.cells #[.int .i64 5, .int .i64 r.seq, .int .i64 (waterM S), .int .i64 0, .string ByteArray.empty, .int .i64 0, .int .i64 0, .slice AJ 0 cJ] 132))
      have hcc := Lib.hid (heap_old (o := .cells #[.int .i64 5, .int .i64 r.seq, .int .i64 (waterM S), .int .i64 0, .string ByteArray.empty, .int .i64 0, .int .i64 0, .slice AJ 0 cJ] 132) hcb.out)
      have HZ3 := Lib.hid (show w2.heap.size < w3.heap.size from lt_of_block hcb.out)
      have c0 : ∀ A, (w3.alloc A).cell? ⟨w2.heap.size, 0, none⟩ = some (.int .i64 r.seq) := fun A => Lib.cell?_alloc_some _ (cellOf hcb.out 0)
      clear hfa hca HJ2 hf3 hcb
      go_wp2_with fail
      clear c0
      generalize w3.alloc (.cells #[.int .i64 5, .int .i64 r.seq, .int .i64 (waterM S), .int .i64 0, .string ByteArray.empty, .int .i64 0, .int .i64 0, .slice AJ 0 cJ] 132) = w4 at *
      have HL4 := Lib.hid (HLi.out.grown hf4)
      have HOf := of_any HL4.out (by rw [sentTo_length]; omega) r.seq
      refine HOf.mono ?_
      rintro e w' ⟨rfl, hw⟩
      obtain rfl : w4 = w' := hw.symm
      rw [show ofM (sentTo S bs j) r.seq = (q : Int) from by rw [HE1.out]; exact ofM_at _ q HS.out.2.2.2]
      have t4 := T.out w4 hf4
      have k0 := t4 _ _ X0.out
      have k1 := t4 _ _ X1.out
      have k2 := t4 _ _ L2.out
      have k3 := t4 _ _ L3.out
      have c0 : w4.cell? ⟨w2.heap.size, 0, none⟩ = some (.int .i64 r.seq) := cellOf hcc.out 0
      have m0 : w4.cell? ⟨w3.heap.size, 0, none⟩ = some (.int .i64 5) := cellOf hmb.out 0
      have m1 : w4.cell? ⟨w3.heap.size, 1, none⟩ = some (.int .i64 r.seq) := cellOf hmb.out 1
      have m2 : w4.cell? ⟨w3.heap.size, 2, none⟩ = some (.int .i64 (waterM S)) := cellOf hmb.out 2
      have hle : decide (r.seq ≤ lastQ S j) = false := decide_eq_false (by omega)
      have hq0 : decide ((q : Int) < 0) = false := decide_eq_false (by omega)
      have hqb : q < bs.length := by have := HS.out.2.2.2; rw [sentTo_length] at this; exact this
      have hqz : (q : Int) < (bs.length : Nat) := by omega
      obtain ⟨cur, hgf⟩ := LifeI.free (c := c2) (by rw [sentTo_length]; exact HS.out.2.1 ▸ HL4.out)
      have fz : w4.frozen? ⟨g, q * 4 + 2, none⟩ = false := freeOf hgf _
      have hwg : IntKind.i64.wrap (r.given + 1) = r.given + 1 := IntWalk.i64_in _ (by have := HH.out.right.t2; omega)
      have HW5 : Hid (LifeI w0 x b (dueT S) (sentTo S bs (j + 1)) vl wt sdj (w4.setCell ⟨g, q * 4 + 2, none⟩ (.int .i64 (r.given + 1)))) := Lib.hid (by
        obtain ⟨s1, s2, s3, s4⟩ := HS.out
        rw [s1, s2]
        have := LifeI.setLine (g := g) (c := c2) (by rw [sentTo_length]; exact s2 ▸ HL4.out) q s4 { (sentTo S bs j)[q] with sent := (sentTo S bs j)[q].sent + 1 } 2 (by decide) (.int .i64 (r.given + 1)) (by rw [s3]; rfl)
        rw [sentTo_length] at this
        exact this)
      clear t4 HOf hw
      go_upto_region 13 with fail
      obtain ⟨cgp, hgp⟩ : ∃ c, wr.heap[gp]? = some (.cells c 118 (0, 0)) := by
        rcases HI.out.row with ⟨h0, _⟩ | ⟨g', cur', h0, _, hg', _⟩
        · cases h0
        · obtain rfl : gp = g' := by injection h0 with e; injection e
          exact ⟨cur', hg'⟩
      have nb : ∀ (k' : Nat) (c : Array Value) (t : Nat), w4.heap[k']? = some (.cells c t (0, 0)) → t ≠ 164 → (w4.setCell ⟨g, q * 4 + 2, none⟩ (.int .i64 (r.given + 1))).heap[k']? = some (.cells c t (0, 0)) := fun k' c t hk ht => (Below.heap_setCell _ _ _ _ (fun e => by
        have e : k' = g := e
        rw [e, hgf] at hk
        simp only [Option.some.injEq, Obj.cells.injEq] at hk
        exact ht hk.2.1.symm)).trans hk
      have hgp4 := (hf4.block _ (lt_of_block hgp) id).trans hgp
      have hP5 := Lib.hid (nb _ _ _ ((hf4.block _ (lt_of_block HP.out) id).trans HP.out) (by decide))
      have y0 : (w4.setCell ⟨g, q * 4 + 2, none⟩ (.int .i64 (r.given + 1))).cell? ⟨x, 0, none⟩ = some (.pointer (some ⟨b, 0, none⟩)) := cellOf HW5.out.box 0
      have y1 : (w4.setCell ⟨g, q * 4 + 2, none⟩ (.int .i64 (r.given + 1))).cell? ⟨x, 1, none⟩ = some (.slice (some ⟨g, 0, none⟩) bs.length c2) := HS.out.2.1 ▸ cellOf HW5.out.box 1
      have y3 : (w4.setCell ⟨g, q * 4 + 2, none⟩ (.int .i64 (r.given + 1))).cell? ⟨x, 3, none⟩ = some (.int .i64 sdj) := cellOf HW5.out.box 3
      have yp : (w4.setCell ⟨g, q * 4 + 2, none⟩ (.int .i64 (r.given + 1))).cell? ⟨w.heap.size, 2, none⟩ = some (.int .i64 p.tries) := cellOf hP5.out 2
      have hm5 := nb _ _ _ hmb.out (by decide)
      have n1 : (w4.setCell ⟨g, q * 4 + 2, none⟩ (.int .i64 (r.given + 1))).cell? ⟨w3.heap.size, 1, none⟩ = some (.int .i64 r.seq) := cellOf hm5 1
      have n2 : (w4.setCell ⟨g, q * 4 + 2, none⟩ (.int .i64 (r.given + 1))).cell? ⟨w3.heap.size, 2, none⟩ = some (.int .i64 (waterM S)) := cellOf hm5 2
      have hgp5 := nb _ _ _ hgp4 (by decide)
      have g0 : (w4.setCell ⟨g, q * 4 + 2, none⟩ (.int .i64 (r.given + 1))).cell? ⟨gp, j * 3, none⟩ = some (.int .i64 65537) := (World.cell?_of_block (w := wr) (hgp5.trans hgp.symm)).trans D0.out
      have g1 : (w4.setCell ⟨g, q * 4 + 2, none⟩ (.int .i64 (r.given + 1))).cell? ⟨gp, j * 3 + 1, none⟩ = some (.int .i64 65636) := (World.cell?_of_block (w := wr) (hgp5.trans hgp.symm)).trans D1.out
      have hcz : q * 4 + 2 < cur.size := by
        have := (cellOf hgf (q * 4 + 2)).symm.trans k2
        exact (Array.getElem?_eq_some_iff.1 this).1
      have o2 : (w4.setCell ⟨g, q * 4 + 2, none⟩ (.int .i64 (r.given + 1))).cell? ⟨g, q * 4 + 2, none⟩ = some (.int .i64 (r.given + 1)) := (cellOf (setOf' hgf (q * 4 + 2) _) (q * 4 + 2)).trans (by rw [Array.getElem?_setIfInBounds]; simp [hcz])
      have o3 : (w4.setCell ⟨g, q * 4 + 2, none⟩ (.int .i64 (r.given + 1))).cell? ⟨g, q * 4 + 3, none⟩ = some (.bool false) := (cellOf (setOf' hgf (q * 4 + 2) _) (q * 4 + 3)).trans (by rw [Array.getElem?_setIfInBounds, if_neg (by omega)]; exact (cellOf hgf (q * 4 + 3)).symm.trans k3)
      have HRow : Hid (OutRow (w4.setCell ⟨g, q * 4 + 2, none⟩ (.int .i64 (r.given + 1))) base 118 3 (some ⟨gp, 0, none⟩) (dueRs S).length (packRow ((dueRs S).map (packOf S (waterM S))))) := Lib.hid ((HI.out.row.fr hf4 (fun _ _ _ => id)).fr ((Fr.refl (fun k => k = g) w4).setCell (p := ⟨g, q * 4 + 2, none⟩) (.inl rfl) _) (fun g' c' hc e => by
        rw [e, hgf] at hc
        simp at hc))
      clear x0 k0 k1 k2 k3 c0 m0 m1 m2 fz hgf hgp4 hgp5 hm5 hgp nb hf4 hmb hcc HL4 T hcz
      generalize w4.setCell ⟨g, q * 4 + 2, none⟩ (.int .i64 (r.given + 1)) = w5 at *
      have HWa := Lib.hid (fun (w' : World) (e : w'.heap = w5.heap) => Water_any (HW5.out.cli.keep (w' := w') (by rw [e]; exact Nat.le_refl _) (fun k' _ => by rw [e])))
      rw [show waterM (dueT S) = waterM S from (HH.out.dued sd HH.out.sd).1] at HWa
      have hs1 : decide (p.tries < r.given + 1) = false := decide_eq_false (by omega)
      have hs2 : decide (r.seq < waterM S) = false := decide_eq_false (by omega)
      have hs3 : decide (waterM S < sdj) = false := decide_eq_false (by omega)
      go_cut [151] from 89 to 151 (fun v wx => v = .bool false ∧ ∃ nq, wx = w5.drewN nq)
      case first => as_aux_lemma =>
        go_quiet ((go_at_call 53; exact Calls.quiet_of_same (HWa.out _ rfl)))
        go_wp2_with fail
        go_meet
        case rel => exact ⟨rfl, _, rfl⟩
      case rest =>
      obtain ⟨rfl, nq, hwc⟩ := hcut
      have hfn : Fr (fun _ => False) w5 wc := by rw [hwc]; exact (Fr.refl _ w5).drewN nq
      have HW6 := Lib.hid (HW5.out.grown hfn)
      have HN : Hid (SendI w0 x b S bs vl wt (some ⟨gp, 0, none⟩) base (j + 1) (wc.setCell ⟨x, 3, none⟩ (.int .i64 (waterM S)))) := Lib.hid ⟨⟨waterM S, Int.le_refl _, HW6.out.setSaid (waterM S)⟩, (HRow.out.fr hfn (fun _ _ _ => id)).fr ((Fr.refl (fun k => k = x) wc).setCell (p := ⟨x, 3, none⟩) (.inl rfl) _) (fun g' c' hc e => by
        rw [e, HW6.out.box] at hc
        simp at hc)⟩
      have HPe : Hid ((wc.setCell ⟨x, 3, none⟩ (.int .i64 (waterM S))).heap[w.heap.size]? = some (.cells #[.int .i64 p.base, .int .i64 p.cap, .int .i64 p.tries] 23 (0, 0))) := Lib.hid ((Below.heap_setCell _ _ _ _ (fun e => by
        have e : w.heap.size = x := e
        have h1 := HW6.out.box
        rw [← e, (hfn.block _ (lt_of_block hP5.out) id).trans hP5.out] at h1
        simp at h1)).trans ((hfn.block _ (lt_of_block hP5.out) id).trans hP5.out))
      have z3 : wc.cell? ⟨x, 3, none⟩ = some (.int .i64 sdj) := cellOf HW6.out.box 3
      have fz3 : wc.frozen? ⟨x, 3, none⟩ = false := freeOf HW6.out.box 3
      have zm : wc.cell? ⟨w3.heap.size, 2, none⟩ = some (.int .i64 (waterM S)) := by rw [hwc]; exact n2
      clear hfn hwc y0 y1 y3 yp n1 n2 g0 g1 o2 o3 hs1 hs2 hs3 HWa
      go_wp2_with fail
      exact ⟨⟨j + 1, by omega, by go_num, congrArg (Value.int .i64) hsucc.out.symm, ⟨_, rfl⟩, ⟨_, rfl⟩, ⟨_, rfl⟩, ⟨_, rfl⟩, ⟨_, rfl⟩, ⟨_, rfl⟩, HN.out, HPe.out⟩, by simp [intOf]; omega⟩
    · obtain rfl : j = (dueRs S).length := by omega
      obtain ⟨sdj, hsd, hlife⟩ := HI.out.life
      have HLi := Lib.hid hlife
      have x0 : wr.cell? ⟨x, 0, none⟩ = some (.pointer (some ⟨b, 0, none⟩)) := cellOf hlife.box 0
      have hO2 := (HH.out.dued sdj hsd).2
      have hOx : Once p room k (dueT S) ((dueQs S).foldl (sendB 9) bs) wt sdj := hO2
      have HD := Lib.hid (due_gives hOx hlife.cli (HG0.out.fr hlife.fr id))
      have hz : (dueRs (dueT S)).length = 0 := by
        have h1 := due_again S (waterM S)
        rw [dueOuts_rs] at h1
        have h2 := congrArg List.length h1
        rw [List.length_map] at h2
        exact h2
      rw [hz] at HD
      have HSD := Lib.hid hsd
      clear hlife hO2 hOx hz
      go_wp2_with fail
      refine HD.out.mono ?_
      rintro e w2 ⟨A2, rfl, hc2, _, hf2⟩
      have HE : Hid (LifeI w0 x b (dueT S) (sentTo S bs (dueRs S).length) vl wt sdj w2) := Lib.hid (by
        have := HLi.out.dued hc2 hf2
        unfold dueT at this
        rw [due_twice] at this
        exact this)
      clear hc2 hf2 HD x0
      go_wp2_with fail
      go_ret
      exact ⟨rfl, sdj, HSD.out, HE.out⟩
end Go.Proofs.YtbegjpmifcnieaaGreatDoor

/- ClientOnce: what each step leaves in memory and in the book. No program is walked here. -/
namespace Go.Proofs.YtbegjpmifcnieaaGreatDoor
open Go.RowKit
set_option linter.unusedVariables false
set_option linter.unusedSimpArgs false

/-- what is true beside the book: the meter's numbers; when requests were first given. -/
structure Beside (S : CliS) : Prop where
  met : S.met.Ok
  first : ∀ r ∈ S.calls, 0 ≤ r.first ∧ r.first ≤ S.now
theorem Beside.due {S : CliS} (h : Beside S) (h0 : 0 ≤ S.now) : Beside (dueT S) := by
  refine ⟨h.met, fun r hr => ?_⟩
  obtain ⟨q, hq, rfl⟩ := List.mem_map.1 hr
  show 0 ≤ (dueCall S.cfg.pace S.now q).first ∧ (dueCall S.cfg.pace S.now q).first ≤ S.now
  have := h.first q hq
  unfold dueCall
  split
  · exact this
  · show 0 ≤ (if q.given = 0 then S.now else q.first) ∧ (if q.given = 0 then S.now else q.first) ≤ S.now
    split
    · exact ⟨h0, Int.le_refl _⟩
    · exact this
theorem Beside.heard {S : CliS} (h : Beside S) (r : CallR) (o : OutM) (vc vo : Value) : Beside (heardS S r o vc vo) := by
  refine ⟨heard_met S r o vc vo h.met, fun q hq => ?_⟩
  have hn : (heardS S r o vc vo).now = S.now := (metS_same S r).2.2.2.1
  rw [hn]
  exact h.first q (List.mem_filter.1 hq).1
theorem Beside.tick {S : CliS} (h : Beside S) (vc vo : Value) : Beside (tickS { S with now := S.now + 1 } S.calls.length vc vo) := by
  refine ⟨h.met, fun q hq => ?_⟩
  have hq : q ∈ tickCalls S.cfg.pace (S.now + 1) S.calls S.calls.length := hq
  unfold tickCalls at hq
  rw [List.take_length, List.drop_length, List.append_nil] at hq
  have := h.first q (List.mem_filter.1 hq).1
  show 0 ≤ q.first ∧ q.first ≤ S.now + 1
  omega
theorem Beside.called {S : CliS} (h : Beside S) (h0 : 0 ≤ S.now) (j hh : Nat) (dst prog vers proc : Int) (args : ByteArray) (vc : Value) : Beside { S with calls := S.calls ++ [newCall S j hh dst prog vers proc args], vc := vc, next := S.next + 1 } := by
  refine ⟨h.met, fun q hq => ?_⟩
  rcases List.mem_append.1 hq with hq | hq
  · exact h.first q hq
  · rw [List.mem_singleton.1 hq]
    exact ⟨Int.le_refl _, h0⟩

theorem find_wait {p : PaceM} {room : Int} {k : Nat} {S : CliS} {bs : List BookM} {wt sd : Int} (h : Once p room k S bs wt sd) (n : Int) :
    (∃ (i : Nat) (hi : i < bs.length) (r : CallR), n = 9 + i ∧ ofM bs n = i ∧ bs[i].over = false ∧ r ∈ S.calls ∧ r.seq = n ∧ S.calls.find? (forB n 65636) = some r) ∨
    (S.calls.find? (forB n 65636) = none ∧ ((∃ (i : Nat) (hi : i < bs.length), n = 9 + i ∧ ofM bs n = i ∧ bs[i].over = true) ∨ ofM bs n = -1)) := by
  have hfor : ∀ r ∈ S.calls, forB n 65636 r = decide (r.seq = n) := fun r hr => by
    unfold forB
    rw [(h.mine r hr).dst]
    simp only [beq_self_eq_true, Bool.and_true]
    by_cases e : r.seq = n
    · simp [e]
    · rw [decide_eq_false e]; exact beq_eq_false_iff_ne.2 e
  have hnone : (∀ r ∈ S.calls, r.seq ≠ n) → S.calls.find? (forB n 65636) = none := fun hno => by
    rw [List.find?_eq_none]
    intro r hr
    rw [hfor r hr]
    simpa using hno r hr
  by_cases hr : 9 ≤ n ∧ n < 9 + bs.length
  · obtain ⟨i, rfl⟩ : ∃ i : Nat, n = 9 + i := ⟨(n - 9).toNat, by omega⟩
    have hi : i < bs.length := by omega
    have ho := ofM_at bs i hi
    by_cases hov : bs[i].over = false
    · left
      obtain ⟨r, hrm, e⟩ := (h.sync.waits i hi).2 hov
      refine ⟨i, hi, r, rfl, ho, hov, hrm, e, ?_⟩
      rcases find_split (forB (9 + (i : Int)) 65636) S.calls with ⟨_, h2⟩ | ⟨k', hk', h1, h2, _⟩
      · have := h2 r hrm
        rw [hfor r hrm, e] at this
        simp at this
      · rw [h1]
        have e2 : (S.calls[k']).seq = 9 + (i : Int) := by
          have := h2
          rw [hfor _ (List.getElem_mem hk')] at this
          exact of_decide_eq_true this
        rw [inj_of_nodup (fun r : CallR => r.seq) S.calls h.sync.nodup _ (List.getElem_mem hk') r hrm (e2.trans e.symm)]
    · right
      rw [Bool.not_eq_false] at hov
      refine ⟨hnone (fun r hrm e => ?_), .inl ⟨i, hi, rfl, ho, hov⟩⟩
      have := (h.sync.waits i hi).1 ⟨r, hrm, e⟩
      rw [hov] at this
      cases this
  · right
    refine ⟨hnone (fun r hrm e => ?_), .inr ?_⟩
    · have := h.sync.range r hrm
      omega
    · unfold ofM
      rw [if_neg hr]

theorem LifeI.heard {w0 w w' : World} {x b : Nat} {S : CliS} {bs : List BookM} {vl : Value} {wt sd : Int} (h : LifeI w0 x b S bs vl wt sd w) {r : CallR} {o : OutM} {vc vo : Value} (hc : Cli w' b (heardS S r o vc vo)) (hv : vc.ownBlock = S.vc.ownBlock)
    (ho : vo.ownBlock = S.vo.ownBlock ∨ ∃ g, vo.ownBlock = some g ∧ w.heap.size ≤ g) (hf : Fr (fun k => k = b ∨ S.vc.ownBlock = some k ∨ S.vo.ownBlock = some k ∨ k = S.m) w w') : LifeI w0 x b (heardS S r o vc vo) bs vl wt sd w' := by
  have hs := metS_same S r
  refine h.step hc hf (fun k hk => ?_) (fun q hq => ?_)
  · rcases hk with e | e | e | e
    · exact .inl e
    · exact .inr (.inr (.inr (.inl e)))
    · exact .inr (.inr (.inr (.inr (.inl e))))
    · exact .inr (.inl e)
  · rcases hq with e | e | ⟨a, e1, e2⟩ | e | e | ⟨q', hq', hm⟩
    · exact .inl (.inl e)
    · exact .inl (.inr (.inl (e.trans hs.2.2.2.2.2.2.2.1)))
    · exact .inl (.inr (.inr (.inl ⟨a, hs.2.2.2.2.2.2.2.2.1 ▸ e1, e2⟩)))
    · exact .inl (.inr (.inr (.inr (.inl (hv ▸ e)))))
    · rcases ho with h1 | ⟨g, h1, h2⟩
      · exact .inl (.inr (.inr (.inr (.inr (.inl (h1 ▸ e))))))
      · have e : vo.ownBlock = some q := e
        rw [h1] at e
        exact .inr (Option.some.inj e ▸ h2)
    · exact .inl (.inr (.inr (.inr (.inr (.inr ⟨q', (List.mem_filter.1 hq').1, hm⟩)))))
theorem LifeI.ticked {w0 w w' : World} {x b : Nat} {S : CliS} {bs : List BookM} {vl : Value} {wt sd : Int} (h : LifeI w0 x b S bs vl wt sd w) {vc vo : Value} (hc : Cli w' b (tickS { S with now := S.now + 1 } S.calls.length vc vo)) (hv : vc.ownBlock = S.vc.ownBlock)
    (ho : vo.ownBlock = S.vo.ownBlock ∨ ∃ g, vo.ownBlock = some g ∧ w.heap.size ≤ g) (hf : Fr (fun k => k = b ∨ S.vc.ownBlock = some k ∨ S.vo.ownBlock = some k) w w') : LifeI w0 x b (tickS { S with now := S.now + 1 } S.calls.length vc vo) bs vl wt sd w' := by
  refine h.step hc hf (fun k hk => ?_) (fun q hq => ?_)
  · rcases hk with e | e | e
    · exact .inl e
    · exact .inr (.inr (.inr (.inl e)))
    · exact .inr (.inr (.inr (.inr (.inl e))))
  · rcases hq with e | e | e | e | e | ⟨q', hq', hm⟩
    · exact .inl (.inl e)
    · exact .inl (.inr (.inl e))
    · exact .inl (.inr (.inr (.inl e)))
    · exact .inl (.inr (.inr (.inr (.inl (hv ▸ e)))))
    · rcases ho with h1 | ⟨g, h1, h2⟩
      · exact .inl (.inr (.inr (.inr (.inr (.inl (h1 ▸ e))))))
      · have e : vo.ownBlock = some q := e
        rw [h1] at e
        exact .inr (Option.some.inj e ▸ h2)
    · have hq' : q' ∈ tickCalls S.cfg.pace (S.now + 1) S.calls S.calls.length := hq'
      unfold tickCalls at hq'
      rw [List.take_length, List.drop_length, List.append_nil] at hq'
      exact .inl (.inr (.inr (.inr (.inr (.inr ⟨q', (List.mem_filter.1 hq').1, hm⟩)))))
theorem LifeI.called {w0 w w' : World} {x b : Nat} {S : CliS} {bs : List BookM} {vl : Value} {wt sd : Int} (h : LifeI w0 x b S bs vl wt sd w) {j : Nat} {dst prog vers proc : Int} {args : ByteArray} {vc : Value} (hj : w.heap.size ≤ j)
    (hc : Cli w' b { S with calls := S.calls ++ [newCall S j w.heap.size dst prog vers proc args], vc := vc, next := S.next + 1 }) (hv : vc.ownBlock = S.vc.ownBlock ∨ ∃ g, vc.ownBlock = some g ∧ w.heap.size ≤ g) (hf : Fr (fun k => k = b ∨ S.vc.ownBlock = some k) w w') :
    LifeI w0 x b { S with calls := S.calls ++ [newCall S j w.heap.size dst prog vers proc args], vc := vc, next := S.next + 1 } bs vl wt sd w' := by
  refine h.step hc hf (fun k hk => ?_) (fun q hq => ?_)
  · rcases hk with e | e
    · exact .inl e
    · exact .inr (.inr (.inr (.inl e)))
  · rcases hq with e | e | e | e | e | ⟨q', hq', hm⟩
    · exact .inl (.inl e)
    · exact .inl (.inr (.inl e))
    · exact .inl (.inr (.inr (.inl e)))
    · rcases hv with h1 | ⟨g, h1, h2⟩
      · exact .inl (.inr (.inr (.inr (.inl (h1 ▸ e)))))
      · have e : vc.ownBlock = some q := e
        rw [h1] at e
        exact .inr (Option.some.inj e ▸ h2)
    · exact .inl (.inr (.inr (.inr (.inr (.inl e)))))
    · rcases List.mem_append.1 hq' with hq' | hq'
      · exact .inl (.inr (.inr (.inr (.inr (.inr ⟨q', hq', hm⟩)))))
      · right
        rw [List.mem_singleton.1 hq'] at hm
        simp only [CallR.blocks, newCall, List.mem_cons, List.not_mem_nil, or_false] at hm
        omega
end Go.Proofs.YtbegjpmifcnieaaGreatDoor
