/- A client: Due, walked. -/
import Derived.Test.YtbegjpmifcnieaaGreatDoorEk
import Derived.Deep.AppendLies
import Derived.IntWalk
namespace Go.Proofs.YtbegjpmifcnieaaGreatDoor
open Go.RowKit
set_option linter.unusedVariables false
set_option linter.unusedSimpArgs false
theorem Tryz.infoPacket : (Tryz.prog.info? 118).map (fun i => (i.zero, i.size, i.bytes)) = some (some (.agg #[.int .i64 0, .int .i64 0, .string ByteArray.empty]), 3, 32) := by kernel_rfl

theorem dueS_get (S : CliS) {k : Nat} (hk : k < S.calls.length) (hk2 : k < (dueS S k).calls.length) : ((dueS S k).calls[k]'hk2) = S.calls[k] := by
  have h : (dueS S k).calls[k]? = S.calls[k]? := by
    unfold dueS
    show (_ ++ _)[k]? = _
    rw [List.getElem?_append_right (by simp; omega)]
    simp [Nat.min_eq_left (Nat.le_of_lt hk)]
  rw [List.getElem?_eq_getElem hk2, List.getElem?_eq_getElem hk] at h
  exact Option.some.inj h
theorem dueS_len (S : CliS) (k : Nat) : (dueS S k).calls.length = S.calls.length := by unfold dueS; simp; omega
theorem dueS_foot {b : Nat} {S : CliS} {k k' : Nat} (h : Foot b (dueS S k) k') : Foot b S k' := by
  rcases h with h | h | h | h | h | ⟨r, hr, hm⟩
  · exact .inl h
  · exact .inr (.inl h)
  · exact .inr (.inr (.inl h))
  · exact .inr (.inr (.inr (.inl h)))
  · exact .inr (.inr (.inr (.inr (.inl h))))
  · refine .inr (.inr (.inr (.inr (.inr ?_))))
    rcases List.mem_append.1 (show r ∈ (S.calls.take k).map (dueCall S.cfg.pace S.now) ++ S.calls.drop k from hr) with hr | hr
    · obtain ⟨r0, h0, rfl⟩ := List.mem_map.1 hr
      exact ⟨r0, List.mem_of_mem_take h0, by rw [← (dueCall_same S.cfg.pace S.now r0).blocks]; exact hm⟩
    · exact ⟨r, List.mem_of_mem_drop hr, hm⟩
/-- what holds at the head of a round of Due. -/
structure DueI (w0 : World) (b : Nat) (S : CliS) (water : Int) (k : Nat) (vo : Value) (w : World) : Prop where
  cli : Cli w b (dueS S k)
  out : w.ownsRow w0.heap.size 118 3 vo (dueOuts S water (S.calls.take k)).length (packRow (dueOuts S water (S.calls.take k)))
  fr : Fr (fun k => ∃ r ∈ S.calls, k = r.k) w0 w
  lo : ∀ k', Foot b S k' → k' < w0.heap.size

theorem DueI.skip {w0 w : World} {b : Nat} {S : CliS} {water : Int} {k : Nat} {vo : Value} (h : DueI w0 b S water k vo w) (hk : k < S.calls.length) (hd : dueM S.cfg.pace S.calls[k].iss S.now ≤ S.calls[k].done) {w' : World} (hf : Fr (fun _ => False) w w') : DueI w0 b S water (k + 1) vo w' := by
  refine ⟨?_, ?_, h.fr.trans (hf.mono (fun _ _ h => h.elim)), h.lo⟩
  · rw [dueS_succ S hk, show dueCall S.cfg.pace S.now S.calls[k] = S.calls[k] by unfold dueCall; rw [if_pos hd], ← dueS_calls S hk]
    exact h.cli.grown hf
  · rw [dueOuts_succ S water hk, show dueOut S water S.calls[k] = [] by unfold dueOut; rw [if_pos hd], List.append_nil]
    exact ownsRow_keep h.out (fun g e => hf.block _ (h.out.lt g e).2 id)
theorem DueI.give {w0 w w4 w5 w6 : World} {b : Nat} {S : CliS} {water : Int} {k : Nat} {vo vo' : Value} (h : DueI w0 b S water k vo w) (hk : k < S.calls.length) (hd : ¬ dueM S.cfg.pace S.calls[k].iss S.now ≤ S.calls[k].done)
    (hc : Cli w4 b { dueS S k with calls := (S.calls.take k).map (dueCall S.cfg.pace S.now) ++ dueCall S.cfg.pace S.now S.calls[k] :: S.calls.drop (k + 1) }) (h4 : Fr (fun k' => k' = S.calls[k].k) w w4) (h5 : Fr (fun _ => False) w4 w5) {o : Obj}
    (hg : (w5.alloc o).grownBy w6 vo.ownBlock)
    (ho : w6.ownsRow w0.heap.size 118 3 vo' ((dueOuts S water (S.calls.take k)).length + 1) (packRow (dueOuts S water (S.calls.take k)) ++ (PackM.mk S.cfg.addr S.calls[k].dst (requestM S S.calls[k] water)).cells)) : DueI w0 b S water (k + 1) vo' w6 := by
  have h6 : Fr (fun k' => vo.ownBlock = some k') w4 w6 := ((h5.mono (fun _ _ h => h.elim)).alloc o).grown hg (fun k e => .inl e)
  refine ⟨?_, ?_, ?_, h.lo⟩
  · have hc := hc
    rw [← dueS_succ S hk] at hc
    refine hc.fr h6 (fun k' hf e => ?_)
    have := (h.out.lt k' e).1
    have := h.lo k' (dueS_foot hf)
    omega
  · rw [dueOuts_succ S water hk, show dueOut S water S.calls[k] = [⟨S.cfg.addr, S.calls[k].dst, requestM S S.calls[k] water⟩] by unfold dueOut; rw [if_neg hd], packRow_append, List.length_append]
    exact ho
  · refine (h.fr.trans (h4.mono (fun k' _ e => ⟨S.calls[k], List.getElem_mem hk, e⟩))).then h6 (fun i hi e => ?_)
    have := (h.out.lt i e).1
    omega

/-- a row that is handed out, cut to its length. -/
def OutRow (w : World) (base e size : Nat) (A : Option Addr) (n : Nat) (xs : List Value) : Prop :=
  (A = none ∧ n = 0) ∨ ∃ g cur, A = some ⟨g, 0, none⟩ ∧ base ≤ g ∧ w.heap[g]? = some (.cells cur e (0, 0)) ∧ n * size ≤ cur.size ∧ cur.toList.take (n * size) = xs
theorem OutRow.of {w : World} {base e size n c : Nat} {A : Option Addr} {xs : List Value} (h : w.ownsRow base e size (.slice A n c) n xs) : OutRow w base e size A n xs := by
  rcases h.2 with ⟨h0, h1⟩ | ⟨g, cap, cur, h0, h1, h2, h3, h4, h5, h6⟩
  · injection h0 with hA _ _
    exact .inl ⟨hA, h1⟩
  · injection h0 with hA _ _
    exact .inr ⟨g, cur, hA, h1, h2, by rw [h5]; exact Nat.mul_le_mul_right _ h3, h6⟩
theorem DueI.clip {w0 w : World} {b : Nat} {S : CliS} {water : Int} {A : Option Addr} {n c : Nat} (hn : n = (dueOuts S water S.calls).length) (h : DueI w0 b S water S.calls.length (.slice A n c) w) :
    Cli w b { S with calls := S.calls.map (dueCall S.cfg.pace S.now) } ∧ OutRow w w0.heap.size 118 3 A (dueOuts S water S.calls).length (packRow (dueOuts S water S.calls)) ∧ Fr (fun k => ∃ r ∈ S.calls, k = r.k) w0 w := by
  have ho := h.out
  rw [List.take_length] at ho
  subst hn
  exact ⟨by have := h.cli; rw [dueS_end] at this; exact this, OutRow.of ho, h.fr⟩
theorem call_ne_err {w : World} {b : Nat} {r : CallR} (h : CallAt w b r) (hg : ErrT w) : r.k ≠ 0 := fun e => by
  have h1 : w.cell? ⟨r.k, 0, none⟩ = some (.int .i64 r.seq) := cellOf h.box 0
  rw [e] at h1
  unfold ErrT at hg
  rw [hg] at h1
  cases h1

set_option maxRecDepth 100000 in
set_option maxHeartbeats 4000000 in
theorem Due_any {w : World} {b : Nat} {S : CliS} (h : Cli w b S) (hg : ErrT w) (hp : Right S.cfg.pace) (hn : ∀ r ∈ S.calls, CallN r) (hl : S.calls.length ≤ 1099511627776) (hm : S.cfg.sys.machine.size ≤ 140737488351232) (hgl : S.cfg.sys.groups.length ≤ 1099511627776) :
    Calls Tryz.prog 50 #[.pointer (some ⟨b, 0, none⟩)] w fun e w' => ∃ A, e = .returned (.slice A (dueOuts S (waterM S) S.calls).length (dueOuts S (waterM S) S.calls).length) ∧
      Cli w' b { S with calls := S.calls.map (dueCall S.cfg.pace S.now) } ∧ OutRow w' w.heap.size 118 3 A (dueOuts S (waterM S) S.calls).length (packRow (dueOuts S (waterM S) S.calls)) ∧ Fr (fun k => ∃ r ∈ S.calls, k = r.k) w w' := by
  have n14 := h.c14
  obtain ⟨A, c, ev, hrow⟩ := h.row
  have HW := Lib.hid (Water_any h)
  generalize hwt : waterM S = water at HW ⊢
  rw [ev] at n14
  have HI : Hid (DueI w b S water 0 (.slice none 0 0) w) := Lib.hid ⟨by rw [dueS_zero]; exact h, ⟨by simp [dueOuts, packRow], .inl ⟨rfl, by simp [dueOuts]⟩⟩, Fr.refl _ _, fun k' hf => h.foot_lt hf⟩
  have HG := Lib.hid hg
  have HP := Lib.hid hp
  have HN := Lib.hid hn
  have HB := Lib.hid (And.intro hl (And.intro hm hgl))
  have HR := Lib.hid hrow
  have HV := Lib.hid ev
  have HEk := Lib.hid (fun (q : CallR) (hq : q ∈ S.calls) => call_ne_err (h.rest.each q hq) hg)
  have HLo := Lib.hid (fun k' (hf : Foot b S k') => h.foot_lt hf)
  clear h hg hp hn hl hm hgl hrow ev hwt
  go_enter Tryz.func50, Tryz.ntmps50
  go_wp2_with (go_at_call 53; refine HW.out.mono ?_; rintro e w' ⟨rfl, hw⟩; obtain rfl : w = w' := hw.symm)
  go_loopw [3, 6, 7, 15] (fun o x n i wr => ∃ k : Nat, k ≤ S.calls.length ∧ i = .int .i64 k ∧ (∃ v : Value, x = v) ∧ (∃ v : Value, n = v) ∧ Hid (DueI w b S water k o wr)) (fun _ _ _ i _ => S.calls.length - (intOf i).toNat)
  case atStart => exact ⟨0, Nat.zero_le _, rfl, ⟨_, rfl⟩, ⟨_, rfl⟩, HI⟩
  case round =>
    obtain ⟨k, hk, rfl, ⟨vx, rfl⟩, ⟨vn, rfl⟩, hI⟩ := hrel
    clear HI n14
    have hl := HB.out.1
    by_cases hlt : k < S.calls.length
    · have hr := hI.out.cli.rest.each S.calls[k] (by rw [dueS_calls S hlt]; exact List.mem_append_right _ List.mem_cons_self)
      have HD := Lib.hid (due_any hI.out.cli S.calls[k] hr HP.out (HN.out _ (List.getElem_mem hlt)).i0 (HN.out _ (List.getElem_mem hlt)).i1)
      rcases HR.out with h0 | ⟨g, rfl, hj⟩
      · rw [h0] at hlt; simp at hlt
      have hcell : wr.cell? ⟨g, k, none⟩ = some (.pointer (some ⟨(S.calls[k]).k, 0, none⟩)) := by
        obtain ⟨A2, c2, e2, hrow2⟩ := hI.out.cli.row
        rcases hrow2 with h0 | ⟨g2, hA2, hj2⟩
        · have h1 := dueS_len S k; rw [h0, List.length_nil] at h1; omega
        · have e3 : S.vc = .slice A2 (dueS S k).calls.length c2 := e2
          rw [HV.out, hA2] at e3
          injection e3 with e3
          injection e3 with e3
          injection e3 with e3
          subst e3
          have hk2 : k < (dueS S k).calls.length := by rw [dueS_len]; exact hlt
          have := hj2 k hk2
          rw [dueS_get S hlt hk2] at this
          exact this
      generalize hrk : S.calls[k] = r at *
      by_cases hd : dueM S.cfg.pace r.iss S.now ≤ r.done
      · have hs := fun (w' : World) (hf : Fr (fun _ => False) wr w') => Lib.hid (hI.out.skip hlt (by rw [hrk]; exact hd) hf)
        have d3 : wr.cell? ⟨r.k, 3, none⟩ = some (.int .i64 r.done) := cellOf hr.box 3
        have HX := Lib.hid hr.box
        clear hr
        have hd' : dueM (dueS S k).cfg.pace r.iss (dueS S k).now ≤ r.done := hd
        generalize dueM (dueS S k).cfg.pace r.iss (dueS S k).now = n at HD hd'
        clear hd
        go_wp2_with fail
        refine HD.out.mono ?_
        rintro e w2 ⟨rfl, hf2⟩
        have d3 : w2.cell? ⟨r.k, 3, none⟩ = some (.int .i64 r.done) := cellOf ((hf2.block _ (lt_of_block HX.out) id).trans HX.out) 3
        have hs2 := hs w2 hf2
        clear hs HD hcell hj hf2
        go_wp2
        exact ⟨⟨k + 1, by omega, by go_num, ⟨_, rfl⟩, ⟨_, rfl⟩, hs2⟩, by simp [intOf]; omega⟩
      · have hng : ¬ dueM S.cfg.pace S.calls[k].iss S.now ≤ S.calls[k].done := by rw [hrk]; exact hd
        have HX := Lib.hid hr
        have HC := Lib.hid hI.out.cli
        have hcl := dueS_calls S hlt
        rw [hrk] at hcl
        have HL := Lib.hid hcl
        have HO := Lib.hid hI.out.out
        have HF := Lib.hid hI.out.fr
        have hrn := Lib.hid (HN.out r (by rw [← hrk]; exact List.getElem_mem hlt))
        have hd' : ¬ dueM (dueS S k).cfg.pace r.iss (dueS S k).now ≤ r.done := hd
        have HDE := Lib.hid (show dueM (dueS S k).cfg.pace r.iss (dueS S k).now = dueM S.cfg.pace r.iss S.now from rfl)
        generalize dueM (dueS S k).cfg.pace r.iss (dueS S k).now = n at HD hd' HDE
        have hd' := Int.not_le.1 hd'
        clear hd hr hcl
        have hng := Lib.hid hng
        go_wp2_with fail
        refine HD.out.mono ?_
        rintro e w2 ⟨rfl, hf2⟩
        have HF2 := Lib.hid hf2
        have hr2 := HX.out.keep (w' := w2) (fun q hm => hf2.block q (by obtain ⟨c', t, hc', _⟩ := HX.out.kind hm; exact lt_of_block hc') id)
        have HR2 := Lib.hid hr2
        have HC2 := Lib.hid (HC.out.grown hf2)
        have d3 : w2.cell? ⟨r.k, 3, none⟩ = some (.int .i64 r.done) := cellOf hr2.box 3
        have d4 : w2.cell? ⟨r.k, 4, none⟩ = some (.int .i64 r.given) := cellOf hr2.box 4
        have d5 : w2.cell? ⟨r.k, 5, none⟩ = some (.int .i64 r.first) := cellOf hr2.box 5
        have d6 : w2.cell? ⟨r.k, 6, none⟩ = some (.func (.func 125) #[] r.caps) := cellOf hr2.box 6
        have f3 := freeOf hr2.box 3
        have f4 := freeOf hr2.box 4
        have f5 := freeOf hr2.box 5
        have n13 : w2.cell? ⟨b, 13, none⟩ = some (.int .i64 S.now) := HC2.out.c13
        have hne : r.k ≠ b := HC2.out.ne (.inr (.inr (.inr (.inr ⟨r, by rw [HL.out]; simp, by simp [CallR.blocks]⟩))))
        have HK2 := Lib.hid hrk
        have HEr := Lib.hid (fun (w' : World) (hf : Fr (fun k' => k' = r.k) wr w') => (HG.out.fr HF.out (by rintro ⟨q, hq, e⟩; exact HEk.out q hq e.symm)).fr hf (fun e => HEk.out r (by rw [← hrk]; exact List.getElem_mem hlt) e.symm))
        have HK : Hid (r.k < w.heap.size) := Lib.hid (HLo.out _ (.inr (.inr (.inr (.inr (.inr ⟨r, by rw [← hrk]; exact List.getElem_mem hlt, by simp [CallR.blocks]⟩))))))
        have HFw : Hid (w.heap.size ≤ wr.heap.size) := Lib.hid HF.out.size
        have g0 := hrn.out.g0
        have g1 := hrn.out.g1
        clear HD hcell hj hf2 hr2
        unfold CallR.caps at *
        have hwr : IntKind.i64.wrap (r.given + 1) = r.given + 1 := IntWalk.i64_in _ (by omega)
        have hwr : IntKind.i64.wrap (r.given + 1) = r.given + 1 := IntWalk.i64_in _ (by omega)
        have hwr : IntKind.i64.wrap (r.given + 1) = r.given + 1 := IntWalk.i64_in _ (by omega)
        have hwr : IntKind.i64.wrap (r.given + 1) = r.given + 1 := IntWalk.i64_in _ (by omega)
        have hwr : IntKind.i64.wrap (r.given + 1) = r.given + 1 := IntWalk.i64_in _ (by omega)
        have hwr : IntKind.i64.wrap (r.given + 1) = r.given + 1 := IntWalk.i64_in _ (by omega)
        by_cases h0 : r.given = 0
        · have H4 : Hid (Cli (((w2.setCell ⟨r.k, 3, none⟩ (.int .i64 n)).setCell ⟨r.k, 5, none⟩ (.int .i64 S.now)).setCell ⟨r.k, 4, none⟩ (.int .i64 1)) b { dueS S k with calls := (S.calls.take k).map (dueCall S.cfg.pace S.now) ++ dueCall S.cfg.pace S.now r :: S.calls.drop (k + 1) }) := Lib.hid (by rw [dueCall_0 S.cfg.pace S.now r n HDE.out hd' h0]; exact HC2.out.given0 HL.out n S.now)
          have hF4 : Fr (fun k' => k' = r.k) wr (((w2.setCell ⟨r.k, 3, none⟩ (.int .i64 n)).setCell ⟨r.k, 5, none⟩ (.int .i64 S.now)).setCell ⟨r.k, 4, none⟩ (.int .i64 1)) := fr_three HF2.out _ _ _ _ _ _
          clear hwr
          have h0 : (r.given == 0) = true := by rw [beq_iff_eq]; exact h0
          have HQ := Lib.hid (request_of (S := S) H4.out rfl (HEr.out _ hF4) (dueCall_same S.cfg.pace S.now r) (List.mem_append_right _ List.mem_cons_self) water HB.out.2.1 HB.out.2.2 hrn.out.ar)
          have HF4 := Lib.hid hF4
          clear hF4
          go_wp2_with fail
          clear d3 d4 d5 d6 f3 f4 f5 n13
          generalize (((w2.setCell ⟨r.k, 3, none⟩ (.int .i64 n)).setCell ⟨r.k, 5, none⟩ (.int .i64 S.now)).setCell ⟨r.k, 4, none⟩ (.int .i64 1)) = w4 at *
          refine HQ.out.mono ?_
          rintro e w5 ⟨rfl, hf5⟩
          have hO5 : w5.ownsRow w.heap.size 118 3 u3 (dueOuts S water (S.calls.take k)).length (packRow (dueOuts S water (S.calls.take k))) := ownsRow_keep (ownsRow_keep HO.out (fun q e => HF4.out.block q (HO.out.lt q e).2 (fun e2 => by have h1 := (HO.out.lt q e).1; have h2 := HK.out; omega))) (fun q e => hf5.block q (Nat.lt_of_lt_of_le (HO.out.lt q e).2 HF4.out.size) id)
          have HO5 := Lib.hid hO5
          have hlen : (dueOuts S water (S.calls.take k)).length ≤ k := Nat.le_trans (dueOuts_le S water _) (by simp; omega)
          have hw5 : w.heap.size ≤ w5.heap.size := Nat.le_trans HFw.out (Nat.le_trans HF4.out.size hf5.size)
          have Hf5 := Lib.hid hf5
          clear hf5 hO5 HQ HO
          obtain ⟨i0, hi0, hz0, hz1, hz2⟩ := info_parts Tryz.infoPacket
          go_wp2_with (at_builtin; refine wpList_append_own_at _ rfl _ _ 109 rfl w.heap.size 118 i0 _ 3 32 Tryz.underlying109 hi0 hz0 hz1 hz2 rfl (by decide) u3 _ (packRow (dueOuts S water (S.calls.take k))) rfl (HO5.out.alloc _) ⟨w5.heap.size, 0, none⟩ 1 1 [.int .i64 S.cfg.addr, .int .i64 r.dst, .string (requestM S r water)] rfl rfl (World.news_of_block (cs := #[.int .i64 S.cfg.addr, .int .i64 r.dst, .string (requestM S r water)]) (t := 118) (fr := (0, 0)) (heap_alloc_new w5 _)) (by simp [Value.oneCell']) (by unfold maxLen; omega) (by omega) (by simp; omega) ?_; intro v9 w9 hown9 hgrow9 _ hat9)
          exact ⟨⟨k + 1, by omega, by go_num, ⟨_, rfl⟩, ⟨_, rfl⟩, Lib.hid (hI.out.give hlt (Int.not_le.2 hng.out) (by rw [HK2.out]; exact H4.out) (by rw [HK2.out]; exact HF4.out) Hf5.out hgrow9 (by rw [HK2.out]; exact hown9))⟩, by simp [intOf]; omega⟩
        · have H4 : Hid (Cli ((w2.setCell ⟨r.k, 3, none⟩ (.int .i64 n)).setCell ⟨r.k, 4, none⟩ (.int .i64 (r.given + 1))) b { dueS S k with calls := (S.calls.take k).map (dueCall S.cfg.pace S.now) ++ dueCall S.cfg.pace S.now r :: S.calls.drop (k + 1) }) := Lib.hid (by rw [dueCall_1 S.cfg.pace S.now r n HDE.out hd' h0]; exact HC2.out.given1 HL.out n (r.given + 1))
          have hF4 : Fr (fun k' => k' = r.k) wr ((w2.setCell ⟨r.k, 3, none⟩ (.int .i64 n)).setCell ⟨r.k, 4, none⟩ (.int .i64 (r.given + 1))) := fr_two HF2.out _ _ _ _
          have h0 : (r.given == 0) = false := by rw [beq_eq_false_iff_ne]; exact h0
          have HQ := Lib.hid (request_of (S := S) H4.out rfl (HEr.out _ hF4) (dueCall_same S.cfg.pace S.now r) (List.mem_append_right _ List.mem_cons_self) water HB.out.2.1 HB.out.2.2 hrn.out.ar)
          have HF4 := Lib.hid hF4
          clear hF4
          go_wp2_with fail
          clear d3 d4 d5 d6 f3 f4 f5 n13
          generalize ((w2.setCell ⟨r.k, 3, none⟩ (.int .i64 n)).setCell ⟨r.k, 4, none⟩ (.int .i64 (r.given + 1))) = w4 at *
          refine HQ.out.mono ?_
          rintro e w5 ⟨rfl, hf5⟩
          have hO5 : w5.ownsRow w.heap.size 118 3 u3 (dueOuts S water (S.calls.take k)).length (packRow (dueOuts S water (S.calls.take k))) := ownsRow_keep (ownsRow_keep HO.out (fun q e => HF4.out.block q (HO.out.lt q e).2 (fun e2 => by have h1 := (HO.out.lt q e).1; have h2 := HK.out; omega))) (fun q e => hf5.block q (Nat.lt_of_lt_of_le (HO.out.lt q e).2 HF4.out.size) id)
          have HO5 := Lib.hid hO5
          have hlen : (dueOuts S water (S.calls.take k)).length ≤ k := Nat.le_trans (dueOuts_le S water _) (by simp; omega)
          have hw5 : w.heap.size ≤ w5.heap.size := Nat.le_trans HFw.out (Nat.le_trans HF4.out.size hf5.size)
          have Hf5 := Lib.hid hf5
          clear hf5 hO5 HQ HO
          obtain ⟨i0, hi0, hz0, hz1, hz2⟩ := info_parts Tryz.infoPacket
          go_wp2_with (at_builtin; refine wpList_append_own_at _ rfl _ _ 109 rfl w.heap.size 118 i0 _ 3 32 Tryz.underlying109 hi0 hz0 hz1 hz2 rfl (by decide) u3 _ (packRow (dueOuts S water (S.calls.take k))) rfl (HO5.out.alloc _) ⟨w5.heap.size, 0, none⟩ 1 1 [.int .i64 S.cfg.addr, .int .i64 r.dst, .string (requestM S r water)] rfl rfl (World.news_of_block (cs := #[.int .i64 S.cfg.addr, .int .i64 r.dst, .string (requestM S r water)]) (t := 118) (fr := (0, 0)) (heap_alloc_new w5 _)) (by simp [Value.oneCell']) (by unfold maxLen; omega) (by omega) (by simp; omega) ?_; intro v9 w9 hown9 hgrow9 _ hat9)
          exact ⟨⟨k + 1, by omega, by go_num, ⟨_, rfl⟩, ⟨_, rfl⟩, Lib.hid (hI.out.give hlt (Int.not_le.2 hng.out) (by rw [HK2.out]; exact H4.out) (by rw [HK2.out]; exact HF4.out) Hf5.out hgrow9 (by rw [HK2.out]; exact hown9))⟩, by simp [intOf]; omega⟩
    · obtain rfl : k = S.calls.length := by omega
      obtain ⟨Ao, co, rfl⟩ := owns_slice hI.out.out
      have HCl := Lib.hid (fun (w' : World) (hf : Fr (fun _ => False) wr w') => hI.out.cli.grown hf)
      have hcap : (dueOuts S water (S.calls.take S.calls.length)).length ≤ co ∧ co ≤ maxLen := by
        rcases hI.out.out.2 with ⟨h0, h1⟩ | ⟨q, cap, cur, h0, _, _, h2, h3, _⟩
        · injection h0 with _ h3 h4
          rw [h3, h4]
          exact ⟨Nat.le_refl _, Nat.zero_le _⟩
        · injection h0 with _ _ h4
          rw [h4]
          exact ⟨h2, h3⟩
      have hI2 := Lib.hid (hI.out.clip (by rw [List.take_length]))
      have HCp := Lib.hid (fun w' => Clip_any Ao (dueOuts S water (S.calls.take S.calls.length)).length co w' hcap.1 hcap.2)
      have hlen : (dueOuts S water (S.calls.take S.calls.length)).length ≤ S.calls.length := Nat.le_trans (dueOuts_le S water _) (by simp)
      clear hI hcap HCl
      rw [List.take_length] at *
      go_wp2_with (go_at_call 129; refine (HCp.out _).mono ?_; rintro e w' ⟨rfl, hw⟩; obtain rfl := hw)
      go_ret
      exact ⟨Ao, rfl, hI2.out⟩
end Go.Proofs.YtbegjpmifcnieaaGreatDoor
