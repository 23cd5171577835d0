/- A client: calls that are struck from the row. -/
import Derived.Test.YtbegjpmifcnieaaGreatDoorEk
import Derived.Test.YtbegjpmifcnieaaGreatDoorShelf
import Derived.Shelf.SlicesE.DeleteFunc
import Derived.Lib.SliceRun
import Derived.Laws.Pointers
import Derived.LaidEqlPtr
import Derived.BigRegion
import Derived.Deep.AppendLies
namespace Go.Proofs.YtbegjpmifcnieaaGreatDoor
open Go.RowKit Go.Lib Go.Sort Go.Shelf
set_option linter.unusedVariables false
set_option linter.unusedSimpArgs false

/-- a block that is there, and is not the row. -/
def GoodK (w : World) (g k : Nat) : Prop := k ≠ g ∧ ∃ c t, w.heap[k]? = some (.cells c t (0, 0))
def encP {w : World} {g : Nat} : Option { k : Nat // GoodK w g k } → Value
  | none => .pointer none
  | some k => .pointer (some ⟨k.1, 0, none⟩)
theorem run_eql_nil_ptr {P : Program} (w : World) {tp te : TypeId} (a : Addr) (hp : P.underlying tp = some (.pointer te)) : (binOp .eql tp (.pointer none) (.pointer (some a))).run P w = .ok (.bool false) w := by
  have h : ∀ d : Nat, (Op.equalIn (d + 1) tp (.pointer none) (.pointer (some a))).run P w = .ok false w := fun d => by
    simp [Op.equalIn, run_underlying hp]
  simp only [binOp]
  simp [Op.equal, Op.maxDepth, h 9999]
theorem Tryz.infoCall : ((Tryz.prog.info? 230).map fun i => decide (i.size ≠ 0)) = some true := by kernel_rfl

set_option maxRecDepth 100000 in
theorem ends1_gives {w : World} {g : Nat} (k0 : { k : Nat // GoodK w g k }) (B : Nat) (x : Option { k : Nat // GoodK w g k }) (W : World) (hW : ∀ k c t, k ≠ g → w.heap[k]? = some (.cells c t (0, 0)) → W.heap[k]? = some (.cells c t (0, 0)))
    (hc : W.cell? ⟨B, 0, none⟩ = some (.pointer (some ⟨k0.1, 0, none⟩))) :
    FnGives Tryz.prog 205 #[.pointer (some ⟨B, 0, none⟩)] #[encP x] (.bool (decide (x.map (·.1) = some k0.1))) W := by
  show Calls Tryz.prog 205 #[encP x, .pointer (some ⟨B, 0, none⟩)] W _
  obtain ⟨j, hj, hz⟩ : ∃ j, Tryz.prog.info? 230 = some j ∧ j.size ≠ 0 := by
    have := Tryz.infoCall
    cases hi : Tryz.prog.info? 230 with
    | none => rw [hi] at this; cases this
    | some j => rw [hi] at this; exact ⟨j, rfl, by simpa using this⟩
  obtain ⟨k0, hk0⟩ := k0
  cases x with
  | none =>
    rw [show decide ((none : Option { k : Nat // GoodK w g k }).map (·.1) = some k0) = false from rfl]
    have he : (binOp .eql 228 (.pointer none) (.pointer (some ⟨k0, 0, none⟩))).run Tryz.prog W = .ok (.bool false) W := run_eql_nil_ptr W _ Tryz.underlying228
    unfold encP
    clear hj hz hW
    go_enter Tryz.func205, Tryz.ntmps205
    go_wp2
    go_ret
    exact ⟨rfl, 0, rfl⟩
  | some k =>
    obtain ⟨k, hk⟩ := k
    unfold encP
    by_cases e : k = k0
    · subst e
      rw [show decide ((some (⟨k, hk⟩ : { k : Nat // GoodK w g k })).map (·.1) = some k) = true from decide_eq_true rfl]
      have he : (binOp .eql 228 (.pointer (some ⟨k, 0, none⟩)) (.pointer (some ⟨k, 0, none⟩))).run Tryz.prog W = .ok (.bool true) W := run_eql_ptr_same W _ Tryz.underlying228 hj
      clear hj hz hW
      go_enter Tryz.func205, Tryz.ntmps205
      go_wp2
      go_ret
      exact ⟨rfl, 0, rfl⟩
    · rw [show decide ((some (⟨k, hk⟩ : { k : Nat // GoodK w g k })).map (·.1) = some k0) = false from decide_eq_false (fun h => e (Option.some.inj h))]
      obtain ⟨c1, t1, h2⟩ := hk.2
      obtain ⟨c3, t3, h4⟩ := hk0.2
      have he : (binOp .eql 228 (.pointer (some ⟨k, 0, none⟩)) (.pointer (some ⟨k0, 0, none⟩))).run Tryz.prog W = .ok (.bool false) W :=
        run_eql_ptr_other W Tryz.underlying228 hj hz (fun h => e (by injection h)) (hW _ _ _ hk.1 h2) (hW _ _ _ hk0.1 h4)
      clear hj hz hW h2 h4
      go_enter Tryz.func205, Tryz.ntmps205
      go_wp2
      go_ret
      exact ⟨rfl, 0, rfl⟩

theorem putCells_take {w : World} {g : Nat} (d : Array (Option { k : Nat // GoodK w g k })) (cur : Array Value) (m : Nat) (hd : d.size ≤ cur.size) (hm : m ≤ d.size) : (putCells encP 0 d cur).toList.take m = (d.toList.take m).map encP := by
  apply List.ext_getElem?
  intro i
  rw [List.getElem?_take, List.getElem?_map, List.getElem?_take]
  by_cases h : i < m
  · rw [if_pos h, if_pos h]
    have h1 : i < cur.size := by omega
    have h2 : i < d.size := by omega
    simp [putCells, h1, h2]
  · rw [if_neg h, if_neg h]; rfl

def keepCalls (S : CliS) (k : Nat) : List CallR := S.calls.filter fun q => !decide (q.k = k)

set_option maxRecDepth 100000 in
theorem delete_any {w : World} {b : Nat} {S : CliS} (h : Cli w b S) (r : CallR) (hr : r ∈ S.calls) (B : Nat) (hB : B < w.heap.size) (hcell : w.cell? ⟨B, 0, none⟩ = some (.pointer (some ⟨r.k, 0, none⟩))) (hBg : S.vc.ownBlock ≠ some B) (hl : S.calls.length ≤ 1099511627776) :
    Calls Tryz.prog 204 #[S.vc, .func (.func 205) #[] #[.pointer (some ⟨B, 0, none⟩)]] w fun e w' => ∃ A c, e = .returned (.slice A (keepCalls S r.k).length c) ∧ w'.ownsRow 0 228 1 (.slice A (keepCalls S r.k).length c) (keepCalls S r.k).length ((keepCalls S r.k).map fun r => ptrV r.k) ∧
      (Value.slice A (keepCalls S r.k).length c).ownBlock = S.vc.ownBlock ∧ Fr (fun k => S.vc.ownBlock = some k) w w' := by
  rcases h.rest.own.2 with ⟨h0, h1⟩ | ⟨g, cap, cur, h0, h1, h2, h3, h4, h5, h6⟩
  · have := List.length_pos_of_mem hr
    omega
  rw [h0] at hBg ⊢
  rw [Nat.mul_one] at h5 h6
  have hBg : g ≠ B := fun e => hBg (by rw [e]; rfl)
  have good : ∀ q ∈ S.calls, GoodK w g q.k := fun q hq => ⟨fun e => h.rest.vc_ne (h.rest.each q hq).box (by decide) (by rw [h0, e]; rfl), _, _, (h.rest.each q hq).box⟩
  let enl : List (Option { k : Nat // GoodK w g k }) := S.calls.attach.map fun q => some ⟨q.1.k, good q.1 q.2⟩
  let d : Array (Option { k : Nat // GoodK w g k }) := enl.toArray
  have hdl : d.toList = enl := rfl
  have hds : d.size = S.calls.length := by simp [d, enl]
  have hget : ∀ j (hj : j < S.calls.length), cur[j]? = some (.pointer (some ⟨S.calls[j].k, 0, none⟩)) := fun j hj => by
    have : (cur.toList.take S.calls.length)[j]? = some (ptrV S.calls[j].k) := by rw [h6, List.getElem?_map, List.getElem?_eq_getElem hj]; rfl
    rw [List.getElem?_take, if_pos hj] at this
    simpa [ptrV] using this
  have hH : Holds encP w g 0 d := fun j hj => by
    have hj' : j < S.calls.length := by rw [← hds]; exact hj
    rw [Nat.zero_add, cellOf h2 j, hget j hj']
    refine ⟨?_, freeOf h2 j⟩
    have : d[j]! = some ⟨(S.calls[j]).k, good _ (List.getElem_mem hj')⟩ := by rw [getElem!_pos d j hj]; simp [d, enl]
    rw [this]; rfl
  have hcon := AnyE.slices_DeleteFunc Tryz.laysDelP (encP (w := w) (g := g)) (fun x => by cases x <;> rfl) (fun x => decide (x.map (·.1) = some r.k)) 205 #[.pointer (some ⟨B, 0, none⟩)] (enters_of Tryz.func205 (by kernel_rfl) rfl) none Tryz.zeroValue228 g 0 cap d w
    (fun W x hb => ends1_gives ⟨r.k, good r hr⟩ B x W (fun k c t _ hk => (hb.block k (lt_of_block hk)).trans hk) ((hb.cell (p := ⟨B, 0, none⟩) hB).trans hcell))
    (fun n os dk x _ => ends1_gives ⟨r.k, good r hr⟩ B x _ (fun k c t hkg hk => by
        unfold sortWorld
        show ((w.heap.modify g (onCells (putCells encP 0 dk))) ++ os)[k]? = _
        rw [Array.getElem?_append_left (by rw [Array.size_modify]; exact lt_of_block hk), Array.getElem?_modify, if_neg (Ne.symm hkg)]
        exact hk) (by
      unfold sortWorld
      rw [cell?_grow _ _ _ (by show B < (putRow _ _ _ _ _).heap.size; rw [size_putRow]; exact hB), cell?_putRow_other _ _ g 0 _ _ (Or.inl (Ne.symm hBg))]
      exact hcell)) hH (by omega) (by omega)
  rw [hds] at hcon
  refine Calls.mono (show Calls Tryz.prog 204 _ _ _ from hcon) ?_
  rintro e w' ⟨rfl, q, rfl⟩
  have hk : ((d.toList.filter fun x => !decide (x.map (·.1) = some r.k)).map encP) = (keepCalls S r.k).map fun r => ptrV r.k := by
    rw [hdl]
    show ((S.calls.attach.map fun q => (some ⟨q.1.k, good q.1 q.2⟩ : Option { k : Nat // GoodK w g k })).filter _).map encP = _
    rw [List.filter_map, List.map_map]
    unfold keepCalls
    have e2 : S.calls.filter (fun q => !decide (q.k = r.k)) = (S.calls.attach.filter (fun q => !decide (q.1.k = r.k))).map (·.1) := by
      conv => lhs; rw [← List.attach_map_subtype_val S.calls]
      rw [List.filter_map]
      rfl
    rw [e2, List.map_map]
    congr 1
    apply List.filter_congr
    intro q _
    simp
  have hkl : (d.toList.filter fun x => !decide (x.map (·.1) = some r.k)).length = (keepCalls S r.k).length := by
    have := congrArg List.length hk
    simpa using this
  have hle : (keepCalls S r.k).length ≤ S.calls.length := List.length_filter_le _ _
  rw [hkl]
  generalize d.toList.filter (fun x => !decide (x.map (·.1) = some r.k)) = kept at hk hkl
  have hsz : (kept ++ List.replicate (S.calls.length - (keepCalls S r.k).length) none).toArray.size = S.calls.length := by simp; omega
  have htk : ((kept ++ List.replicate (S.calls.length - (keepCalls S r.k).length) none).toArray.toList.take (keepCalls S r.k).length).map encP = (keepCalls S r.k).map fun r => ptrV r.k := by
    rw [List.toList_toArray, List.take_append_of_le_length (by omega), List.take_of_length_le (by omega), hk]
  generalize (kept ++ List.replicate (S.calls.length - (keepCalls S r.k).length) none).toArray = arr at hsz htk ⊢
  have hp : (putRow encP (Sort.ahead w q) g 0 arr).heap[g]? = some (.cells (putCells encP 0 arr cur) 228 (0, 0)) := by
    show (w.heap.modify g (onCells (putCells encP 0 arr)))[g]? = _
    rw [Array.getElem?_modify, if_pos rfl, h2]
    rfl
  refine ⟨some ⟨g, 0, none⟩, cap, rfl, ⟨by simp, .inr ⟨g, cap, _, rfl, Nat.zero_le _, hp, by omega, h4, by simp [putCells, h5], ?_⟩⟩, rfl, ⟨rfl, rfl, rfl, by rw [size_putRow]; exact Nat.le_refl _, fun k hk hn => ?_⟩⟩
  · rw [Nat.mul_one, putCells_take arr cur _ (by omega) (by omega)]
    exact htk
  · show (w.heap.modify g (onCells (putCells encP 0 arr)))[k]? = _
    rw [Array.getElem?_modify, if_neg (fun e => hn (by rw [e]; rfl))]
end Go.Proofs.YtbegjpmifcnieaaGreatDoor

/- A client: a call has its outcome. -/
namespace Go.Proofs.YtbegjpmifcnieaaGreatDoor
open Go.RowKit
set_option linter.unusedVariables false
set_option linter.unusedSimpArgs false
theorem Tryz.infoOutcome : (Tryz.prog.info? 146).map (fun i => (i.zero, i.size, i.bytes)) = some (some (.agg #[.int .i64 0, .int .i64 0, .int .i64 0, .int .i64 0, .int .i64 0, .int .i64 0, .int .i64 0, .string ByteArray.empty, .int .i64 0]), 9, 80) := by kernel_rfl

theorem CliRest.vo_ne {w : World} {b : Nat} {S : CliS} (h : CliRest w b S) {k : Nat} {c : Array Value} {t : Nat} (hk : w.heap[k]? = some (.cells c t (0, 0))) (ht : t ≠ 146) : S.vo.ownBlock ≠ some k := fun e => by
  rcases h.outs.2 with ⟨h0, _⟩ | ⟨g, cap, cur, h0, _, hg, _⟩
  · rw [h0] at e; cases e
  · rw [h0] at e
    obtain rfl : g = k := Option.some.inj e
    rw [hg] at hk
    simp only [Option.some.injEq, Obj.cells.injEq] at hk
    exact ht hk.2.1.symm
/-- the row of outcomes was written, or is another one. -/
theorem Cli.movedOuts {w w9 : World} {b : Nat} {S : CliS} (h : Cli w b S) (hf : Fr (fun k => S.vo.ownBlock = some k) w w9) (vo : Value) (l : List OutM) (ho : w9.ownsRow 0 146 9 vo l.length (outRow l)) :
    Cli (w9.setCell ⟨b, 15, none⟩ vo) b { S with outs := l, vo := vo } := by
  have mv : ∀ (k : Nat) (c : Array Value) (t : Nat), w.heap[k]? = some (.cells c t (0, 0)) → t ≠ 146 → w9.heap[k]? = w.heap[k]? := fun k c t hk ht => hf.block _ (lt_of_block hk) (h.rest.vo_ne hk ht)
  have hb9 : w9.heap[b]? = some (.cells (cliBox S) 161 (0, 0)) := (mv _ _ _ h.box (by decide)).trans h.box
  have st : ∀ (k : Nat) (c : Array Value) (t : Nat), w9.heap[k]? = some (.cells c t (0, 0)) → t ≠ 161 → (w9.setCell ⟨b, 15, none⟩ vo).heap[k]? = w9.heap[k]? := fun k c t hk ht => Below.heap_setCell _ _ _ _ (fun e => by
    rw [show (⟨b, 15, none⟩ : Addr).block = b from rfl] at e
    rw [e, hb9] at hk
    simp only [Option.some.injEq, Obj.cells.injEq] at hk
    exact ht hk.2.1.symm)
  have both : ∀ (k : Nat) (c : Array Value) (t : Nat), w.heap[k]? = some (.cells c t (0, 0)) → t ≠ 146 → t ≠ 161 → (w9.setCell ⟨b, 15, none⟩ vo).heap[k]? = w.heap[k]? := fun k c t hk h1 h2 => (st k c t ((mv _ _ _ hk h1).trans hk) h2).trans (mv _ _ _ hk h1)
  have hs : w.heap.size ≤ (w9.setCell ⟨b, 15, none⟩ vo).heap.size := by rw [World.size_setCell]; exact hf.size
  have hA : ∀ a, S.A = some a → (w9.setCell ⟨b, 15, none⟩ vo).heap[a.block]? = w.heap[a.block]? := fun a ha => by
    obtain ⟨o, hx⟩ : ∃ o, w.heap[a.block]? = some o := ⟨_, Array.getElem?_eq_getElem (h.rest.grpT a ha).1⟩
    obtain ⟨x, rfl⟩ := (h.rest.grpT a ha).2 _ hx
    exact both _ _ _ hx (by decide) (by decide)
  refine ⟨(setOf' hb9 15 _).trans rfl, (both _ _ _ h.rest.met (by decide) (by decide)).trans h.rest.met, ?_, fun a ha => ⟨Nat.lt_of_lt_of_le (h.rest.grpT a ha).1 hs, fun c hc => (h.rest.grpT a ha).2 c (by rw [← hA a ha]; exact hc)⟩,
    ownsRow_keep h.rest.own (fun g e => ?_), ownsRow_keep ho (fun g e => ?_), fun r hr => (h.rest.each r hr).keep (fun k hm => ?_), h.rest.nodup⟩
  · rcases h.rest.grp with h0 | ⟨g, off, ha, hg, hc⟩
    · exact .inl h0
    · have e := hA ⟨g, off, none⟩ ha
      exact .inr ⟨g, off, ha, Nat.lt_of_lt_of_le hg hs, fun j hj => (World.cell?_of_block (w := w) (a := ⟨g, off + j, none⟩) e).trans (hc j hj)⟩
  · rcases h.rest.own.2 with ⟨h0, _⟩ | ⟨g', cap, cur, h0, _, hg, _⟩
    · rw [h0] at e; cases e
    · rw [h0] at e; obtain rfl : g' = g := Option.some.inj e; exact both _ _ _ hg (by decide) (by decide)
  · rcases ho.2 with ⟨h0, _⟩ | ⟨g', cap, cur, h0, _, hg, _⟩
    · rw [h0] at e; cases e
    · rw [h0] at e; obtain rfl : g' = g := Option.some.inj e; exact st _ _ _ hg (by decide)
  · obtain ⟨c', t, hc', ht⟩ := (h.rest.each r hr).kind hm
    exact both _ _ _ hc' (by rcases ht with e | e | e | e <;> (rw [e]; decide)) (by rcases ht with e | e | e | e <;> (rw [e]; decide))

theorem endMoved {w w9 : World} {b : Nat} {S : CliS} (h : Cli w b S) (k : Nat) (A : Option Addr) (c : Nat) (hf : Fr (fun k => S.vc.ownBlock = some k) w w9) (ho : w9.ownsRow 0 228 1 (.slice A (keepCalls S k).length c) (keepCalls S k).length ((keepCalls S k).map fun r => ptrV r.k)) :
    Cli (w9.setCell ⟨b, 14, none⟩ (.slice A (keepCalls S k).length c)) b { S with calls := keepCalls S k, vc := .slice A (keepCalls S k).length c } := by
  refine h.moved hf.size (fun q hq => hf.block q ?_ ?_) _ _ ho (fun r hr => ?_) ?_
  · rcases hq with rfl | hq
    · exact lt_of_block h.box
    · exact (h.rest.foot (CliRest.q_foot hq)).1
  · rcases hq with rfl | hq
    · exact h.rest.vc_ne h.box (by decide)
    · exact h.rest.q_ne hq
  · have hr := h.rest.each r (List.mem_filter.1 hr).1
    refine hr.keep (fun q hm => ?_)
    obtain ⟨c', t, hc', ht⟩ := hr.kind hm
    exact hf.block _ (lt_of_block hc') (h.rest.vc_ne hc' (by rcases ht with e | e | e | e <;> (rw [e]; decide)))
  · exact (List.filter_sublist.map _).nodup h.rest.nodup

def outOf (S : CliS) (r : CallR) (o : OutM) : OutM := { o with seq := r.seq, at' := S.now }

set_option maxRecDepth 100000 in
set_option maxHeartbeats 4000000 in
theorem ends_any {w : World} {b : Nat} {S : CliS} (h : Cli w b S) (r : CallR) (hr : r ∈ S.calls) (o : OutM) (hl : S.calls.length ≤ 1099511627776) (hol : S.outs.length ≤ 1099511627776) :
    Calls Tryz.prog 131 #[.pointer (some ⟨b, 0, none⟩), .pointer (some ⟨r.k, 0, none⟩), .agg #[.int .i64 o.seq, .int .i64 o.status, .int .i64 o.accept, .int .i64 o.reject, .int .i64 o.why, .int .i64 o.low, .int .i64 o.high, .string o.results, .int .i64 o.at']] w fun e w' => e = .returned (.tuple #[]) ∧
      ∃ A c vo, Cli w' b { S with calls := keepCalls S r.k, vc := .slice A (keepCalls S r.k).length c, outs := S.outs ++ [outOf S r o], vo := vo } ∧ (Value.slice A (keepCalls S r.k).length c).ownBlock = S.vc.ownBlock ∧ (vo.ownBlock = S.vo.ownBlock ∨ ∃ g, vo.ownBlock = some g ∧ w.heap.size ≤ g) ∧
        Fr (fun k => k = b ∨ S.vc.ownBlock = some k ∨ S.vo.ownBlock = some k) w w' := by
  have hrb := (h.rest.each r hr).box
  have s0 : w.cell? ⟨r.k, 0, none⟩ = some (.int .i64 r.seq) := cellOf hrb 0
  have n13 := h.c13
  have hrz := lt_of_block hrb
  have hbz := lt_of_block h.box
  have HH := Lib.hid h
  have HR := Lib.hid hr
  have HL := Lib.hid (And.intro hl hol)
  clear h hr hl hol hrb
  go_enter Tryz.func131, Tryz.ntmps131
  go_wp2_with fail
  have hf2 : Fr (fun _ => False) w (((w.alloc (.cells #[.pointer (some ⟨r.k, 0, none⟩)] 228)).alloc (.cells #[.int .i64 r.seq, .int .i64 o.status, .int .i64 o.accept, .int .i64 o.reject, .int .i64 o.why, .int .i64 o.low, .int .i64 o.high, .string o.results, .int .i64 S.now] 146)).drew) := (((Fr.refl _ w).alloc _).alloc _).drew
  have hX2 : (((w.alloc (.cells #[.pointer (some ⟨r.k, 0, none⟩)] 228)).alloc (.cells #[.int .i64 r.seq, .int .i64 o.status, .int .i64 o.accept, .int .i64 o.reject, .int .i64 o.why, .int .i64 o.low, .int .i64 o.high, .string o.results, .int .i64 S.now] 146)).drew).heap[w.heap.size]? = some (.cells #[.pointer (some ⟨r.k, 0, none⟩)] 228) := heap_old (heap_alloc_new w _)
  have hO2 : (((w.alloc (.cells #[.pointer (some ⟨r.k, 0, none⟩)] 228)).alloc (.cells #[.int .i64 r.seq, .int .i64 o.status, .int .i64 o.accept, .int .i64 o.reject, .int .i64 o.why, .int .i64 o.low, .int .i64 o.high, .string o.results, .int .i64 S.now] 146)).drew).heap[w.heap.size + 1]? = some (.cells #[.int .i64 r.seq, .int .i64 o.status, .int .i64 o.accept, .int .i64 o.reject, .int .i64 o.why, .int .i64 o.low, .int .i64 o.high, .string o.results, .int .i64 S.now] 146) := heap_two (w := w)
  have hz2 : (((w.alloc (.cells #[.pointer (some ⟨r.k, 0, none⟩)] 228)).alloc (.cells #[.int .i64 r.seq, .int .i64 o.status, .int .i64 o.accept, .int .i64 o.reject, .int .i64 o.why, .int .i64 o.low, .int .i64 o.high, .string o.results, .int .i64 S.now] 146)).drew).heap.size = w.heap.size + 2 := by simp
  go_region
  clear s0 n13
  generalize ((w.alloc (.cells #[.pointer (some ⟨r.k, 0, none⟩)] 228)).alloc (.cells #[.int .i64 r.seq, .int .i64 o.status, .int .i64 o.accept, .int .i64 o.reject, .int .i64 o.why, .int .i64 o.low, .int .i64 o.high, .string o.results, .int .i64 S.now] 146)).drew = w2 at *
  have H2 := Lib.hid (HH.out.grown hf2)
  have HF2 := Lib.hid hf2
  have c0 : w2.cell? ⟨w.heap.size + 1, 0, none⟩ = some (.int .i64 r.seq) := cellOf hO2 0
  have c1 : w2.cell? ⟨w.heap.size + 1, 1, none⟩ = some (.int .i64 o.status) := cellOf hO2 1
  have c2 : w2.cell? ⟨w.heap.size + 1, 2, none⟩ = some (.int .i64 o.accept) := cellOf hO2 2
  have c3 : w2.cell? ⟨w.heap.size + 1, 3, none⟩ = some (.int .i64 o.reject) := cellOf hO2 3
  have c4 : w2.cell? ⟨w.heap.size + 1, 4, none⟩ = some (.int .i64 o.why) := cellOf hO2 4
  have c5 : w2.cell? ⟨w.heap.size + 1, 5, none⟩ = some (.int .i64 o.low) := cellOf hO2 5
  have c6 : w2.cell? ⟨w.heap.size + 1, 6, none⟩ = some (.int .i64 o.high) := cellOf hO2 6
  have c7 : w2.cell? ⟨w.heap.size + 1, 7, none⟩ = some (.string o.results) := cellOf hO2 7
  have c8 : w2.cell? ⟨w.heap.size + 1, 8, none⟩ = some (.int .i64 S.now) := cellOf hO2 8
  have n15 := H2.out.c15
  have f15 : w2.frozen? ⟨b, 15, none⟩ = false := freeOf H2.out.box 15
  have HX2 := Lib.hid hX2
  have hlen := HL.out.2
  have hb2 : b < w2.heap.size := by omega
  clear hz2
  obtain ⟨i0, hi0, hz0, hz1, hz3⟩ := info_parts Tryz.infoOutcome
  obtain ⟨v9, w9, hrun, hown, hgrow, _, hat⟩ := run_append_own_at (P := Tryz.prog) ((w2.alloc (.cells #[.int .i64 r.seq, .int .i64 o.status, .int .i64 o.accept, .int .i64 o.reject, .int .i64 o.why, .int .i64 o.low, .int .i64 o.high, .string o.results, .int .i64 S.now] 146)).drew) 0 143 143 146 i0 _ 9 80 Tryz.underlying143 hi0 hz0 hz1 hz3 rfl (by decide) S.vo S.outs.length (outRow S.outs) ((H2.out.rest.outs.alloc _).drew) ⟨w2.heap.size, 0, none⟩ 1 1 [.int .i64 r.seq, .int .i64 o.status, .int .i64 o.accept, .int .i64 o.reject, .int .i64 o.why, .int .i64 o.low, .int .i64 o.high, .string o.results, .int .i64 S.now] rfl (World.news_of_block (cs := #[.int .i64 r.seq, .int .i64 o.status, .int .i64 o.accept, .int .i64 o.reject, .int .i64 o.why, .int .i64 o.low, .int .i64 o.high, .string o.results, .int .i64 S.now]) (t := 146) (fr := (0, 0)) (heap_alloc_new w2 _)) (by simp [Value.oneCell']) (by unfold maxLen; omega) (by omega) (by simp)
  obtain ⟨A9, k9, rfl⟩ := owns_slice hown
  simp [go_sem] at hrun
  have hgF : Fr (fun k => S.vo.ownBlock = some k) w2 w9 := (((Fr.refl _ w2).alloc _).drew).grown hgrow (fun k e => .inl e)
  have hvb : S.vo.ownBlock ≠ some b := fun e => H2.out.ne (.inr (.inr (.inr (.inl e)))) rfl
  have fz9 : w9.frozen? ⟨b, 15, none⟩ = false := freeOf ((hgF.block _ hb2 hvb).trans H2.out.box) 15
  have c15 : w9.cell? ⟨b, 15, none⟩ = some S.vo := cellOf ((hgF.block _ hb2 hvb).trans H2.out.box) 15
  have m15 : ∀ A, (w2.alloc A).cell? ⟨b, 15, none⟩ = some S.vo := fun A => Lib.cell?_alloc_some _ n15
  have H10 := Lib.hid (H2.out.movedOuts hgF (.slice A9 (S.outs.length + 1) k9) (S.outs ++ [outOf S r o]) (by rw [List.length_append, outRow_append]; exact hown))
  have HV := Lib.hid hat
  have HGF := Lib.hid hgF
  have hXo : S.vo.ownBlock ≠ some w.heap.size := H2.out.rest.vo_ne hX2 (by decide)
  have hX9 : w9.heap[w.heap.size]? = some (.cells #[.pointer (some ⟨r.k, 0, none⟩)] 228) := (hgF.block _ (lt_of_block hX2) hXo).trans hX2
  have hXb : w.heap.size ≠ b := by omega
  have HXv : S.vc.ownBlock ≠ some w.heap.size := fun e => by have := (HH.out.rest.own.lt _ e).2; omega
  clear hown hgrow hat hf2 hX2 hO2 hgF
  go_wp2_with fail
  go_region
  clear hrun m15 c0 c1 c2 c3 c4 c5 c6 c7 c8 n15 f15 c15 fz9
  have hX10 : (w9.setCell ⟨b, 15, none⟩ (.slice A9 (S.outs.length + 1) k9)).heap[w.heap.size]? = some (.cells #[.pointer (some ⟨r.k, 0, none⟩)] 228) := (Below.heap_setCell _ _ _ _ hXb).trans hX9
  have hF10 : Fr (fun k => k = b ∨ S.vc.ownBlock = some k ∨ S.vo.ownBlock = some k) w (w9.setCell ⟨b, 15, none⟩ (.slice A9 (S.outs.length + 1) k9)) := ((HF2.out.mono (S' := fun k => k = b ∨ S.vc.ownBlock = some k ∨ S.vo.ownBlock = some k) (fun _ _ e => e.elim)).trans (HGF.out.mono (fun _ _ e => .inr (.inr e)))).setCell (p := ⟨b, 15, none⟩) (.inl (.inl rfl)) _
  generalize w9.setCell ⟨b, 15, none⟩ (.slice A9 (S.outs.length + 1) k9) = w10 at *
  have n14 : w10.cell? ⟨b, 14, none⟩ = some S.vc := H10.out.c14
  have HD := Lib.hid (delete_any H10.out r HR.out w.heap.size (lt_of_block hX10) (cellOf hX10 0) HXv HL.out.1)
  have HF10 := Lib.hid hF10
  have HX10 := Lib.hid hX10
  clear hX9 hX10 hF10
  go_wp2_with fail
  refine HD.out.mono ?_
  rintro e w11 ⟨A, c, rfl, ho, hv, hf⟩
  have hvcb : S.vc.ownBlock ≠ some b := H10.out.rest.vc_ne H10.out.box (by decide)
  have hb10 : b < w10.heap.size := lt_of_block H10.out.box
  have hbx : w11.heap[b]? = _ := (hf.block _ hb10 hvcb).trans H10.out.box
  have q14 : w11.cell? ⟨b, 14, none⟩ = some S.vc := cellOf hbx 14
  have f14 : w11.frozen? ⟨b, 14, none⟩ = false := freeOf hbx 14
  have H12 := Lib.hid (endMoved H10.out r.k A c hf ho)
  have HF12 := Lib.hid ((HF10.out.trans (hf.mono (S' := fun k => k = b ∨ S.vc.ownBlock = some k ∨ S.vo.ownBlock = some k) (fun _ _ e => .inr (.inl e)))).setCell (p := ⟨b, 14, none⟩) (.inl (.inl rfl)) (.slice A (keepCalls S r.k).length c))
  have HV12 := Lib.hid hv
  have HVo : Hid ((Value.slice A9 (S.outs.length + 1) k9).ownBlock = S.vo.ownBlock ∨ ∃ g, (Value.slice A9 (S.outs.length + 1) k9).ownBlock = some g ∧ w.heap.size ≤ g) := Lib.hid (by
    rcases HV.out with h | h
    · exact .inl h
    · exact .inr ⟨_, h, by have := HF2.out.size; simpa using Nat.le_trans this (Nat.le_succ _)⟩)
  clear ho hv hf hbx HD n14 HV HGF
  go_wp2
  go_end0
  exact ⟨rfl, A, c, .slice A9 (S.outs.length + 1) k9, H12.out, HV12.out, HVo.out, HF12.out⟩
end Go.Proofs.YtbegjpmifcnieaaGreatDoor
