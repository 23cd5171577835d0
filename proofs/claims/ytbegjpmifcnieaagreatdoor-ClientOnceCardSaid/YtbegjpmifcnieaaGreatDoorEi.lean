/- A client: Call, where it goes through. -/
import Derived.Test.YtbegjpmifcnieaaGreatDoorEg
import Derived.Deep.RegionHeld3
import Derived.Deep.AppendLies
import Derived.StillTactics
import Derived.BigRegion
import Derived.OwnWalk
import Derived.Laws.Pointers
namespace Go.Proofs.YtbegjpmifcnieaaGreatDoor
open Go.RowKit
set_option linter.unusedVariables false
set_option linter.unusedSimpArgs false

theorem heap_six (w : World) (a b c d e f : Obj) : ∃ w', w' = (((((w.alloc a).alloc b).alloc c).alloc d).alloc e).alloc f ∧ w'.heap[w.heap.size]? = some a ∧ w'.heap[w.heap.size + 1]? = some b ∧ w'.heap[w.heap.size + 1 + 1]? = some c ∧ w'.heap[w.heap.size + 1 + 1 + 1]? = some d ∧
    w'.heap[w.heap.size + 1 + 1 + 1 + 1]? = some e ∧ w'.heap[w.heap.size + 1 + 1 + 1 + 1 + 1]? = some f := by
  refine ⟨_, rfl, ?_, ?_, ?_, ?_, ?_, ?_⟩
  · exact heap_old (heap_old (heap_old (heap_old (heap_old (heap_alloc_new w a)))))
  · exact heap_old (heap_old (heap_old (heap_old (heap_two (w := w)))))
  · exact heap_old (heap_old (heap_old (heap_three (w := w))))
  · have := heap_alloc_new (((w.alloc a).alloc b).alloc c) d
    simp only [World.size_alloc] at this
    exact heap_old (heap_old this)
  · have := heap_alloc_new ((((w.alloc a).alloc b).alloc c).alloc d) e
    simp only [World.size_alloc] at this
    exact heap_old this
  · have := heap_alloc_new (((((w.alloc a).alloc b).alloc c).alloc d).alloc e) f
    simp only [World.size_alloc] at this
    exact this
theorem Cli.heap {w w' : World} {b : Nat} {S : CliS} (h : Cli w b S) (e : w'.heap = w.heap) : Cli w' b S := h.keep (by rw [e]; exact Nat.le_refl _) (fun k _ => by rw [e])

structure CallMay (S : CliS) (dst prog vers proc : Int) (args : ByteArray) : Prop where
  a : isAddrB dst = true
  p : isWordB prog = true
  v : isWordB vers = true
  q : isWordB proc = true
  l : args.size ≤ 1000
  m : (args.size : Int) % 4 = 0
  w : S.next - waterM S < S.cfg.window
  e : S.next ≠ 4294967296
/-- what a client is, whose numbers lie within the bounds. -/
structure CliN (S : CliS) : Prop where
  n0 : 1 ≤ S.next
  n1 : S.next ≤ 4294967296
  w0 : 1 ≤ waterM S
  w1 : waterM S ≤ 4294967296
  len : S.calls.length ≤ 4294967296
  outs : S.outs.length ≤ 1099511627776
  now0 : 0 ≤ S.now
  now1 : S.now ≤ 2305843009213693952

def newCall (S : CliS) (k h : Nat) (dst prog vers proc : Int) (args : ByteArray) : CallR := ⟨k, h, h + 1 + 1 + 1 + 1 + 1 + 1, h + 1 + 1, h + 1 + 1 + 1, h + 1 + 1 + 1 + 1, h + 1 + 1 + 1 + 1 + 1, h + 1, S.next, dst, S.now, 0, 0, 0, prog, vers, proc, args⟩
theorem Tryz.infoPCall : (Tryz.prog.info? 228).map (fun i => (i.zero, i.size, i.bytes)) = some (some (.pointer none), 1, 8) := by kernel_rfl

set_option maxRecDepth 100000 in
set_option maxHeartbeats 4000000 in
theorem Call_ok {w : World} {b : Nat} {S : CliS} (h : Cli w b S) (hn : CliN S) (dst prog vers proc : Int) (args : ByteArray) (hm : CallMay S dst prog vers proc args) :
    Calls Tryz.prog 49 #[.pointer (some ⟨b, 0, none⟩), .int .i64 dst, .int .i64 prog, .int .i64 vers, .int .i64 proc, .string args] w fun e w' => e = .returned (.tuple #[.int .i64 S.next, .int .i64 0]) ∧
      ∃ k vc, w.heap.size ≤ k ∧ Cli w' b { S with calls := S.calls ++ [newCall S k w.heap.size dst prog vers proc args], vc := vc, next := S.next + 1 } ∧ (vc.ownBlock = S.vc.ownBlock ∨ ∃ g, vc.ownBlock = some g ∧ w.heap.size ≤ g) ∧ Fr (fun k => k = b ∨ S.vc.ownBlock = some k) w w' := by
  obtain ⟨w6, e6, b0, b1, b2, b3, b4, b5⟩ := heap_six w (.cells #[.pointer (some ⟨b, 0, none⟩)] 48) (.cells #[.int .i64 dst] 3) (.cells #[.int .i64 prog] 3) (.cells #[.int .i64 vers] 3) (.cells #[.int .i64 proc] 3) (.cells #[.string args] 9)
  have hf6 : Fr (fun _ => False) w w6 := by rw [e6]; exact ((((((Fr.refl _ _).alloc _).alloc _).alloc _).alloc _).alloc _).alloc _
  have hz6 : w6.heap.size = w.heap.size + 6 := by rw [e6]; simp
  have H6 := Lib.hid (h.grown hf6)
  have E6 := Lib.hid e6
  have HA := Lib.hid (fun w (hw : w = w6) => hw ▸ isAddress_any dst w)
  obtain ⟨ma, mp, mv, mq, ml, mm, mw, me⟩ := hm
  clear e6
  have x0 := cellOf b0 0
  have x1 := cellOf b1 0
  have x2 := cellOf b2 0
  have x3 := cellOf b3 0
  have x4 := cellOf b4 0
  have x5 := cellOf b5 0
  have B := Lib.hid (And.intro b0 (And.intro b1 (And.intro b2 (And.intro b3 (And.intro b4 b5)))))
  clear b0 b1 b2 b3 b4 b5
  go_enter Tryz.func49, Tryz.ntmps49
  go_wp2_with fail
  rw [← E6.out]
  refine (isAddress_any _ _).mono ?_
  rintro e w' ⟨rfl, rfl⟩
  rw [ma]
  go_wp2_with (go_at_call 124; refine (isWordL_any _ _).mono ?_; rintro e w' ⟨rfl, rfl⟩)
  have n12 := H6.out.c12
  have n13 := H6.out.c13
  have n14 := H6.out.c14
  have n3 : w6.cell? ⟨b, 3, none⟩ = some (.int .i64 S.cfg.window) := cellOf H6.out.box 3
  have hW := Lib.hid (fun (w' : World) (e : w'.heap = w6.heap) => Water_any (H6.out.heap e))
  obtain ⟨nn0, nn1, nw0, nw1, nl, no, nt0, nt1⟩ := hn
  have ew : S.next - waterM S < S.cfg.window := mw
  generalize waterM S = wt at hW mw ew nw0 nw1
  clear HA ma mp mv mq ml mm
  go_quiet ((go_at_call 53; exact Calls.quiet_of_same (hW.out _ rfl)))
  go_wp2_with fail
  clear mw ew nw0 nw1 n3 hW x0 x1 x2 x3 x4 x5 n12 n13 n14
  have hf8 : Fr (fun _ => False) w6 ((w6.drewN nq).alloc (.cells #[.int .i64 S.next] 3)) := ((Fr.refl _ _).drewN nq).alloc _
  have b6 : ((w6.drewN nq).alloc (.cells #[.int .i64 S.next] 3)).heap[w.heap.size + 6]? = some (.cells #[.int .i64 S.next] 3) := by rw [← hz6]; exact heap_alloc_new (w6.drewN nq) _
  have hz8 : ((w6.drewN nq).alloc (.cells #[.int .i64 S.next] 3)).heap.size = w.heap.size + 7 := by rw [World.size_alloc]; show w6.heap.size + 1 = _; omega
  generalize (w6.drewN nq).alloc (.cells #[.int .i64 S.next] 3) = w8 at *
  obtain ⟨b0, b1, b2, b3, b4, b5⟩ := B.out
  replace b0 := (hf8.block _ (lt_of_block b0) id).trans b0
  replace b1 := (hf8.block _ (lt_of_block b1) id).trans b1
  replace b2 := (hf8.block _ (lt_of_block b2) id).trans b2
  replace b3 := (hf8.block _ (lt_of_block b3) id).trans b3
  replace b4 := (hf8.block _ (lt_of_block b4) id).trans b4
  replace b5 := (hf8.block _ (lt_of_block b5) id).trans b5
  have H8 := Lib.hid (H6.out.grown hf8)
  have HF := Lib.hid (hf6.trans hf8)
  have BB := Lib.hid (And.intro b0 (And.intro b1 (And.intro b2 (And.intro b3 (And.intro b4 (And.intro b5 b6))))))
  have x0 : w8.cell? ⟨w.heap.size, 0, none⟩ = some (.pointer (some ⟨b, 0, none⟩)) := cellOf b0 0
  have x1 : w8.cell? ⟨w.heap.size + 1, 0, none⟩ = some (.int .i64 dst) := cellOf b1 0
  have x6 : w8.cell? ⟨w.heap.size + 6, 0, none⟩ = some (.int .i64 S.next) := cellOf b6 0
  have n13 := H8.out.c13
  have n14 := H8.out.c14
  have f14 : w8.frozen? ⟨b, 14, none⟩ = false := freeOf H8.out.box 14
  have hbz : b < w8.heap.size := lt_of_block H8.out.box
  have hvb : S.vc.ownBlock ≠ some b := fun e => H8.out.ne (.inr (.inr (.inl e))) rfl
  have own8 := Lib.hid H8.out.rest.own
  have hbw : b < w.heap.size := lt_of_block h.box
  have hvw : ∀ g, S.vc.ownBlock = some g → g < w.heap.size := fun g e => (h.rest.own.lt g e).2
  clear hf6 hf8 hz6 H6 E6 B b0 b1 b2 b3 b4 b5 b6 h
  obtain ⟨i0, hi0, hz0, hz1, hz2⟩ := info_parts Tryz.infoPCall
  have hb8 : ∀ A, ((w8.alloc A).alloc (.cells #[.pointer (some ⟨w.heap.size + 7, 0, none⟩)] 228)).drew.heap[w.heap.size + 7 + 1]? = some (.cells #[.pointer (some ⟨w.heap.size + 7, 0, none⟩)] 228) := fun A => by rw [← hz8]; exact heap_two
  obtain ⟨v9, w9, hrun, hown, hgrow, _, hat⟩ := run_append_own_at (P := Tryz.prog) (((w8.alloc (.cells #[.int .i64 S.next, .int .i64 dst, .int .i64 S.now, .int .i64 0, .int .i64 0, .int .i64 0, .func (.func 125) #[] #[.pointer (some ⟨w.heap.size, 0, none⟩), .pointer (some ⟨w.heap.size + 6, 0, none⟩), .pointer (some ⟨w.heap.size + 1 + 1, 0, none⟩), .pointer (some ⟨w.heap.size + 1 + 1 + 1, 0, none⟩), .pointer (some ⟨w.heap.size + 1 + 1 + 1 + 1, 0, none⟩), .pointer (some ⟨w.heap.size + 1 + 1 + 1 + 1 + 1, 0, none⟩), .pointer (some ⟨w.heap.size + 1, 0, none⟩)]] 230)).alloc (.cells #[.pointer (some ⟨w.heap.size + 7, 0, none⟩)] 228)).drew)
    0 159 159 228 i0 _ 1 8 Tryz.underlying159 hi0 hz0 hz1 hz2 rfl (by omega) S.vc S.calls.length (S.calls.map fun r => ptrV r.k) (((own8.out.alloc _).alloc _).drew) ⟨w.heap.size + 7 + 1, 0, none⟩ 1 1 [.pointer (some ⟨w.heap.size + 7, 0, none⟩)] rfl (World.news_of_block (cs := #[.pointer (some ⟨w.heap.size + 7, 0, none⟩)]) (t := 228) (fr := (0, 0)) (hb8 _)) (by simp [Value.oneCell']) (by unfold maxLen; omega) (by omega) (by simp)
  have hgF : Fr (fun k => S.vc.ownBlock = some k) w8 w9 := ((((Fr.refl _ w8).alloc _).alloc _).drew).grown hgrow (fun k e => .inl e)
  have fz1 : w9.frozen? ⟨b, 14, none⟩ = false := freeOf ((hgF.block _ hbz hvb).trans H8.out.box) 14
  have c14 : w9.cell? ⟨b, 14, none⟩ = some S.vc := cellOf ((hgF.block _ hbz hvb).trans H8.out.box) 14
  have HH := Lib.hid (And.intro hown (And.intro hgrow hat))
  obtain ⟨A9, c9, rfl⟩ := owns_slice hown
  simp [go_sem] at hrun
  have m14 : ∀ A, (w8.alloc A).cell? ⟨b, 14, none⟩ = some S.vc := fun A => Lib.cell?_alloc_some _ n14
  have m15 : ∀ A B, ((w8.alloc A).alloc B).cell? ⟨b, 14, none⟩ = some S.vc := fun A B => Lib.cell?_alloc_some _ (m14 A)
  have p0 : ∀ A, (w8.alloc A).cell? ⟨w.heap.size, 0, none⟩ = some (.pointer (some ⟨b, 0, none⟩)) := fun A => Lib.cell?_alloc_some _ x0
  have p1 : ∀ A B, ((w8.alloc A).alloc B).cell? ⟨w.heap.size, 0, none⟩ = some (.pointer (some ⟨b, 0, none⟩)) := fun A B => Lib.cell?_alloc_some _ (p0 A)
  have q0 : w9.cell? ⟨w.heap.size, 0, none⟩ = some (.pointer (some ⟨b, 0, none⟩)) := (World.cell?_of_block (w := w8) (hgF.block _ (by show w.heap.size < _; omega) (fun e => absurd (hvw _ e) (Nat.lt_irrefl _)))).trans x0
  have hvw2 := hvw
  have hwrn : IntKind.i64.wrap (S.next + 1) = S.next + 1 := by unfold IntKind.wrap; simp [IntKind.bits, IntKind.signed]; omega
  clear hown hgrow hat hvw hb8 nn0 nn1 nl no nt0 nt1
  have H10 : Hid (Cli (w9.setCell ⟨b, 14, none⟩ (.slice A9 (S.calls.length + 1) c9)) b { S with calls := S.calls ++ [newCall S (w.heap.size + 7) w.heap.size dst prog vers proc args], vc := .slice A9 (S.calls.length + 1) c9 }) := Lib.hid (by
    obtain ⟨e0, e1, e2, e3, e4, e5, e6⟩ := BB.out
    have e7 : w9.heap[w.heap.size + 7]? = some (.cells #[.int .i64 S.next, .int .i64 dst, .int .i64 S.now, .int .i64 0, .int .i64 0, .int .i64 0, .func (.func 125) #[] #[.pointer (some ⟨w.heap.size, 0, none⟩), .pointer (some ⟨w.heap.size + 6, 0, none⟩), .pointer (some ⟨w.heap.size + 1 + 1, 0, none⟩), .pointer (some ⟨w.heap.size + 1 + 1 + 1, 0, none⟩), .pointer (some ⟨w.heap.size + 1 + 1 + 1 + 1, 0, none⟩), .pointer (some ⟨w.heap.size + 1 + 1 + 1 + 1 + 1, 0, none⟩), .pointer (some ⟨w.heap.size + 1, 0, none⟩)]] 230 (0, 0)) := by
      refine ((HH.out.2.1).block _ (by simp; omega) (fun e => by have := hvw2 _ e.symm; omega)).trans ?_
      rw [← hz8]
      exact heap_old (heap_alloc_new w8 _)
    have mv : ∀ (k : Nat) (c : Array Value) (t : Nat), w8.heap[k]? = some (.cells c t (0, 0)) → t ≠ 228 → w9.heap[k]? = some (.cells c t (0, 0)) := fun k c t hk ht => (hgF.block _ (lt_of_block hk) (H8.out.rest.vc_ne hk ht)).trans hk
    refine H8.out.moved hgF.size (fun k hk => hgF.block k ?_ ?_) _ _ ?_ ?_ ?_
    · rcases hk with rfl | hk
      · exact hbz
      · exact (H8.out.rest.foot (CliRest.q_foot hk)).1
    · rcases hk with rfl | hk
      · exact hvb
      · exact H8.out.rest.q_ne hk
    · simpa [ptrV, newCall] using HH.out.1
    · intro r hr
      rcases List.mem_append.1 hr with hr | hr
      · refine (H8.out.rest.each r hr).keep (fun k hm => ?_)
        obtain ⟨c', t, hc', ht⟩ := (H8.out.rest.each r hr).kind hm
        rw [hc']
        exact mv _ _ _ hc' (by rcases ht with e | e | e | e <;> (rw [e]; decide))
      · rw [List.mem_singleton.1 hr]
        exact ⟨e7, mv _ _ _ e0 (by decide), mv _ _ _ e6 (by decide), mv _ _ _ e2 (by decide), mv _ _ _ e3 (by decide), mv _ _ _ e4 (by decide), mv _ _ _ e5 (by decide), mv _ _ _ e1 (by decide)⟩
    · rw [List.map_append, List.nodup_append]
      refine ⟨H8.out.rest.nodup, by simp, fun x hx y hy => ?_⟩
      obtain ⟨r, hr, rfl⟩ := List.mem_map.1 hx
      obtain rfl : y = w.heap.size + 7 := by simpa [newCall] using hy
      have := lt_of_block (H8.out.rest.each r hr).box
      omega)
  have HFv : Hid (Fr (fun k => k = b ∨ S.vc.ownBlock = some k) w (w9.setCell ⟨b, 14, none⟩ (.slice A9 (S.calls.length + 1) c9))) := Lib.hid (((HF.out.mono (S' := fun k => k = b ∨ S.vc.ownBlock = some k) (fun _ _ h => h.elim)).trans (hgF.mono (fun _ _ h => .inr h))).setCell (.inl (.inl rfl)) _)
  have HV : Hid ((Value.slice A9 (S.calls.length + 1) c9).ownBlock = S.vc.ownBlock ∨ ∃ g, (Value.slice A9 (S.calls.length + 1) c9).ownBlock = some g ∧ w.heap.size ≤ g) := Lib.hid (by
    rcases HH.out.2.2 with h | h
    · exact .inl h
    · exact .inr ⟨_, h, by simp; omega⟩)
  have q6 : w9.cell? ⟨w.heap.size + 6, 0, none⟩ = some (.int .i64 S.next) := (World.cell?_of_block (w := w8) (hgF.block _ (by show w.heap.size + 6 < _; omega) (fun e => by have := hvw2 _ e; simp at this; omega))).trans x6
  go_region
  clear hrun m14 m15 p0 p1 HH BB
  have hne0 : w.heap.size ≠ b := by omega
  have hne6 : w.heap.size + 6 ≠ b := by omega
  have r0 : (w9.setCell ⟨b, 14, none⟩ (.slice A9 (S.calls.length + 1) c9)).cell? ⟨w.heap.size, 0, none⟩ = some (.pointer (some ⟨b, 0, none⟩)) := by rw [World.cell?_setCell_far _ _ _ _ (Ne.symm hne0)]; exact q0
  have r6 : (w9.setCell ⟨b, 14, none⟩ (.slice A9 (S.calls.length + 1) c9)).cell? ⟨w.heap.size + 6, 0, none⟩ = some (.int .i64 S.next) := by rw [World.cell?_setCell_far _ _ _ _ (Ne.symm hne6)]; exact q6
  generalize w9.setCell ⟨b, 14, none⟩ (.slice A9 (S.calls.length + 1) c9) = w10 at *
  have n12 := H10.out.c12
  have f12 := freeOf H10.out.box 12
  trace_state
  have hs12 := Lib.hid (H10.out.setNext (S.next + 1))
  have hF12 := Lib.hid (HFv.out.setCell (p := ⟨b, 12, none⟩) (.inl (.inl rfl)) (.int .i64 (S.next + 1)))
  have hwr : IntKind.i64.wrap (S.next + 1) = S.next + 1 := hwrn
  go_wp2
  refine bodyPost_ret (v := .tuple #[.int .i64 S.next, .int .i64 0]) ?_ rfl ⟨rfl, w.heap.size + 7, by omega, .slice A9 (S.calls.length + 1) c9, hs12.out, HV.out, hF12.out⟩
  simp [results, Tryz.results49, go_sem]
end Go.Proofs.YtbegjpmifcnieaaGreatDoor
