/- A client: calls that are struck from the row. -/
import Derived.Test.YtlcjfafmmoncpaaGreatDoorEk
import Derived.Test.YtlcjfafmmoncpaaGreatDoorShelf
import Derived.Shelf.SlicesE.DeleteFunc
import Derived.Lib.SliceRun
import Derived.Laws.Pointers
import Derived.LaidEqlPtr
namespace Go.Proofs.YtlcjfafmmoncpaaGreatDoor
open Go.RowKit Go.Lib Go.Sort Go.Shelf
set_option linter.unusedVariables false
set_option linter.unusedSimpArgs false

/-- a block that is there, and is not the row. -/
def GoodK (w : World) (g k : Nat) : Prop := k ≠ g ∧ ∃ c t, w.heap[k]? = some (.cells c t (0, 0))
def encP {w : World} {g : Nat} : Option { k : Nat // GoodK w g k } → Value
  | none => .pointer none
  | some k => .pointer (some ⟨k.1, 0, none⟩)
theorem run_eql_nil_ptr {P : Program} (w : World) {tp te : TypeId} (a : Addr) (hp : P.underlying tp = some (.pointer te)) : (binOp .eql tp (.pointer none) (.pointer (some a))).run P w = .ok (.bool false) w := by
  have h : ∀ d : Nat, (Op.equalIn (d + 1) tp (.pointer none) (.pointer (some a))).run P w = .ok false w := fun d => by
    simp [Op.equalIn, run_underlying hp]
  simp only [binOp]
  simp [Op.equal, Op.maxDepth, h 9999]
theorem Tryz.infoCall : ((Tryz.prog.info? 141).map fun i => decide (i.size ≠ 0)) = some true := by kernel_rfl

set_option maxRecDepth 100000 in
theorem ends1_gives {w : World} {g : Nat} (k0 : { k : Nat // GoodK w g k }) (B : Nat) (x : Option { k : Nat // GoodK w g k }) (W : World) (hW : ∀ k c t, k ≠ g → w.heap[k]? = some (.cells c t (0, 0)) → W.heap[k]? = some (.cells c t (0, 0)))
    (hc : W.cell? ⟨B, 0, none⟩ = some (.pointer (some ⟨k0.1, 0, none⟩))) :
    FnGives Tryz.prog 152 #[.pointer (some ⟨B, 0, none⟩)] #[encP x] (.bool (decide (x.map (·.1) = some k0.1))) W := by
  show Calls Tryz.prog 152 #[encP x, .pointer (some ⟨B, 0, none⟩)] W _
  obtain ⟨j, hj, hz⟩ : ∃ j, Tryz.prog.info? 141 = some j ∧ j.size ≠ 0 := by
    have := Tryz.infoCall
    cases hi : Tryz.prog.info? 141 with
    | none => rw [hi] at this; cases this
    | some j => rw [hi] at this; exact ⟨j, rfl, by simpa using this⟩
  obtain ⟨k0, hk0⟩ := k0
  cases x with
  | none =>
    rw [show decide ((none : Option { k : Nat // GoodK w g k }).map (·.1) = some k0) = false from rfl]
    have he : (binOp .eql 139 (.pointer none) (.pointer (some ⟨k0, 0, none⟩))).run Tryz.prog W = .ok (.bool false) W := run_eql_nil_ptr W _ Tryz.underlying139
    unfold encP
    clear hj hz hW
    go_enter Tryz.func152, Tryz.ntmps152
    go_wp2
    go_ret
    exact ⟨rfl, 0, rfl⟩
  | some k =>
    obtain ⟨k, hk⟩ := k
    unfold encP
    by_cases e : k = k0
    · subst e
      rw [show decide ((some (⟨k, hk⟩ : { k : Nat // GoodK w g k })).map (·.1) = some k) = true from decide_eq_true rfl]
      have he : (binOp .eql 139 (.pointer (some ⟨k, 0, none⟩)) (.pointer (some ⟨k, 0, none⟩))).run Tryz.prog W = .ok (.bool true) W := run_eql_ptr_same W _ Tryz.underlying139 hj
      clear hj hz hW
      go_enter Tryz.func152, Tryz.ntmps152
      go_wp2
      go_ret
      exact ⟨rfl, 0, rfl⟩
    · rw [show decide ((some (⟨k, hk⟩ : { k : Nat // GoodK w g k })).map (·.1) = some k0) = false from decide_eq_false (fun h => e (Option.some.inj h))]
      obtain ⟨c1, t1, h2⟩ := hk.2
      obtain ⟨c3, t3, h4⟩ := hk0.2
      have he : (binOp .eql 139 (.pointer (some ⟨k, 0, none⟩)) (.pointer (some ⟨k0, 0, none⟩))).run Tryz.prog W = .ok (.bool false) W :=
        run_eql_ptr_other W Tryz.underlying139 hj hz (fun h => e (by injection h)) (hW _ _ _ hk.1 h2) (hW _ _ _ hk0.1 h4)
      clear hj hz hW h2 h4
      go_enter Tryz.func152, Tryz.ntmps152
      go_wp2
      go_ret
      exact ⟨rfl, 0, rfl⟩

theorem putCells_take {w : World} {g : Nat} (d : Array (Option { k : Nat // GoodK w g k })) (cur : Array Value) (m : Nat) (hd : d.size ≤ cur.size) (hm : m ≤ d.size) : (putCells encP 0 d cur).toList.take m = (d.toList.take m).map encP := by
  apply List.ext_getElem?
  intro i
  rw [List.getElem?_take, List.getElem?_map, List.getElem?_take]
  by_cases h : i < m
  · rw [if_pos h, if_pos h]
    have h1 : i < cur.size := by omega
    have h2 : i < d.size := by omega
    simp [putCells, h1, h2]
  · rw [if_neg h, if_neg h]; rfl

def keepCalls (S : CliS) (k : Nat) : List CallR := S.calls.filter fun q => !decide (q.k = k)

set_option maxRecDepth 100000 in
theorem delete_any {w : World} {b : Nat} {S : CliS} (h : Cli w b S) (r : CallR) (hr : r ∈ S.calls) (B : Nat) (hB : B < w.heap.size) (hcell : w.cell? ⟨B, 0, none⟩ = some (.pointer (some ⟨r.k, 0, none⟩))) (hBg : S.vc.ownBlock ≠ some B) (hl : S.calls.length ≤ 1099511627776) :
    Calls Tryz.prog 151 #[S.vc, .func (.func 152) #[] #[.pointer (some ⟨B, 0, none⟩)]] w fun e w' => ∃ A c, e = .returned (.slice A (keepCalls S r.k).length c) ∧ w'.ownsRow 0 139 1 (.slice A (keepCalls S r.k).length c) (keepCalls S r.k).length ((keepCalls S r.k).map fun r => ptrV r.k) ∧
      (Value.slice A (keepCalls S r.k).length c).ownBlock = S.vc.ownBlock ∧ Fr (fun k => S.vc.ownBlock = some k) w w' := by
  rcases h.rest.own.2 with ⟨h0, h1⟩ | ⟨g, cap, cur, h0, h1, h2, h3, h4, h5, h6⟩
  · have := List.length_pos_of_mem hr
    omega
  rw [h0] at hBg ⊢
  rw [Nat.mul_one] at h5 h6
  have hBg : g ≠ B := fun e => hBg (by rw [e]; rfl)
  have good : ∀ q ∈ S.calls, GoodK w g q.k := fun q hq => ⟨fun e => h.rest.vc_ne (h.rest.each q hq).box (by decide) (by rw [h0, e]; rfl), _, _, (h.rest.each q hq).box⟩
  let enl : List (Option { k : Nat // GoodK w g k }) := S.calls.attach.map fun q => some ⟨q.1.k, good q.1 q.2⟩
  let d : Array (Option { k : Nat // GoodK w g k }) := enl.toArray
  have hdl : d.toList = enl := rfl
  have hds : d.size = S.calls.length := by simp [d, enl]
  have hget : ∀ j (hj : j < S.calls.length), cur[j]? = some (.pointer (some ⟨S.calls[j].k, 0, none⟩)) := fun j hj => by
    have : (cur.toList.take S.calls.length)[j]? = some (ptrV S.calls[j].k) := by rw [h6, List.getElem?_map, List.getElem?_eq_getElem hj]; rfl
    rw [List.getElem?_take, if_pos hj] at this
    simpa [ptrV] using this
  have hH : Holds encP w g 0 d := fun j hj => by
    have hj' : j < S.calls.length := by rw [← hds]; exact hj
    rw [Nat.zero_add, cellOf h2 j, hget j hj']
    refine ⟨?_, freeOf h2 j⟩
    have : d[j]! = some ⟨(S.calls[j]).k, good _ (List.getElem_mem hj')⟩ := by rw [getElem!_pos d j hj]; simp [d, enl]
    rw [this]; rfl
  have hcon := AnyE.slices_DeleteFunc Tryz.laysDelP (encP (w := w) (g := g)) (fun x => by cases x <;> rfl) (fun x => decide (x.map (·.1) = some r.k)) 152 #[.pointer (some ⟨B, 0, none⟩)] (enters_of Tryz.func152 (by kernel_rfl) rfl) none Tryz.zeroValue139 g 0 cap d w
    (fun W x hb => ends1_gives ⟨r.k, good r hr⟩ B x W (fun k c t _ hk => (hb.block k (lt_of_block hk)).trans hk) ((hb.cell (p := ⟨B, 0, none⟩) hB).trans hcell))
    (fun n os dk x _ => ends1_gives ⟨r.k, good r hr⟩ B x _ (fun k c t hkg hk => by
        unfold sortWorld
        show ((w.heap.modify g (onCells (putCells encP 0 dk))) ++ os)[k]? = _
        rw [Array.getElem?_append_left (by rw [Array.size_modify]; exact lt_of_block hk), Array.getElem?_modify, if_neg (Ne.symm hkg)]
        exact hk) (by
      unfold sortWorld
      rw [cell?_grow _ _ _ (by show B < (putRow _ _ _ _ _).heap.size; rw [size_putRow]; exact hB), cell?_putRow_other _ _ g 0 _ _ (Or.inl (Ne.symm hBg))]
      exact hcell)) hH (by omega) (by omega)
  rw [hds] at hcon
  refine Calls.mono (show Calls Tryz.prog 151 _ _ _ from hcon) ?_
  rintro e w' ⟨rfl, q, rfl⟩
  have hk : ((d.toList.filter fun x => !decide (x.map (·.1) = some r.k)).map encP) = (keepCalls S r.k).map fun r => ptrV r.k := by
    rw [hdl]
    show ((S.calls.attach.map fun q => (some ⟨q.1.k, good q.1 q.2⟩ : Option { k : Nat // GoodK w g k })).filter _).map encP = _
    rw [List.filter_map, List.map_map]
    unfold keepCalls
    have e2 : S.calls.filter (fun q => !decide (q.k = r.k)) = (S.calls.attach.filter (fun q => !decide (q.1.k = r.k))).map (·.1) := by
      conv => lhs; rw [← List.attach_map_subtype_val S.calls]
      rw [List.filter_map]
      rfl
    rw [e2, List.map_map]
    congr 1
    apply List.filter_congr
    intro q _
    simp
  have hkl : (d.toList.filter fun x => !decide (x.map (·.1) = some r.k)).length = (keepCalls S r.k).length := by
    have := congrArg List.length hk
    simpa using this
  have hle : (keepCalls S r.k).length ≤ S.calls.length := List.length_filter_le _ _
  rw [hkl]
  generalize d.toList.filter (fun x => !decide (x.map (·.1) = some r.k)) = kept at hk hkl
  have hsz : (kept ++ List.replicate (S.calls.length - (keepCalls S r.k).length) none).toArray.size = S.calls.length := by simp; omega
  have htk : ((kept ++ List.replicate (S.calls.length - (keepCalls S r.k).length) none).toArray.toList.take (keepCalls S r.k).length).map encP = (keepCalls S r.k).map fun r => ptrV r.k := by
    rw [List.toList_toArray, List.take_append_of_le_length (by omega), List.take_of_length_le (by omega), hk]
  generalize (kept ++ List.replicate (S.calls.length - (keepCalls S r.k).length) none).toArray = arr at hsz htk ⊢
  have hp : (putRow encP (Sort.ahead w q) g 0 arr).heap[g]? = some (.cells (putCells encP 0 arr cur) 139 (0, 0)) := by
    show (w.heap.modify g (onCells (putCells encP 0 arr)))[g]? = _
    rw [Array.getElem?_modify, if_pos rfl, h2]
    rfl
  refine ⟨some ⟨g, 0, none⟩, cap, rfl, ⟨by simp, .inr ⟨g, cap, _, rfl, Nat.zero_le _, hp, by omega, h4, by simp [putCells, h5], ?_⟩⟩, rfl, ⟨rfl, rfl, rfl, by rw [size_putRow]; exact Nat.le_refl _, fun k hk hn => ?_⟩⟩
  · rw [Nat.mul_one, putCells_take arr cur _ (by omega) (by omega)]
    exact htk
  · show (w.heap.modify g (onCells (putCells encP 0 arr)))[k]? = _
    rw [Array.getElem?_modify, if_neg (fun e => hn (by rw [e]; rfl))]
end Go.Proofs.YtlcjfafmmoncpaaGreatDoor
