/- Package message: whether a reply may be. -/
import Derived.Test.YtbegjpmifcnieaaGreatDoorMb
import Derived.Test.YtbegjpmifcnieaaGreatDoorR4
import Derived.Deep.RegionHeld3
import Derived.Laws.StructEq
namespace Go.Proofs.YtbegjpmifcnieaaGreatDoor
open Go.RowKit
set_option linter.unusedVariables false
set_option linter.unusedSimpArgs false

theorem reply_cells10 {w : World} {b t : Nat} {r : ReplyM} (h : ReplyAt w b t r) :
    w.cell? ⟨b, 0, none⟩ = some (.int .i64 r.xid) ∧ w.cell? ⟨b, 1, none⟩ = some (.bool r.denied) ∧ w.cell? ⟨b, 2, none⟩ = some (.int .i64 r.verf.flavor) ∧ w.cell? ⟨b, 3, none⟩ = some (.string r.verf.body) ∧ w.cell? ⟨b, 4, none⟩ = some (.int .i64 r.accept) ∧ w.cell? ⟨b, 5, none⟩ = some (.int .i64 r.reject) ∧ w.cell? ⟨b, 6, none⟩ = some (.int .i64 r.why) ∧ w.cell? ⟨b, 7, none⟩ = some (.int .i64 r.low) ∧ w.cell? ⟨b, 8, none⟩ = some (.int .i64 r.high) ∧ w.cell? ⟨b, 9, none⟩ = some (.string r.results) := box10 (Lib.hid (show _ = _ from h))

set_option maxRecDepth 100000 in
theorem eql_reply (a b : ReplyM) (w : World) : (binOp .eql 45 (.agg (replyCells a)) (.agg (replyCells b))).run Tryz.prog w = .ok (.bool (sameB a b)) w := by
  unfold replyCells sameB
  go_simp
  repeat' split
  all_goals simp [*]
theorem eqGuard_reply (a b : ReplyM) (x y : Operand) (w : World) : (eqGuard .eql 45 x y (.agg (replyCells a)) (.agg (replyCells b))).run Tryz.prog w = .ok () w := by
  go_simp

set_option maxRecDepth 100000 in
set_option maxHeartbeats 8000000 in
theorem mayReply_any (r : ReplyM) (w : World) (h3 : r.results.size ≤ 140737488351232) :
    Calls Tryz.prog 153 #[.agg (replyCells r)] w fun e w' => e = .returned (.bool (mayReplyB r)) ∧ Fr (fun _ => False) w w' := by
  obtain ⟨V, hV⟩ : ∃ V : Value, V = .agg (replyCells (bareM r)) := ⟨_, rfl⟩
  have HB : Hid (∀ w, Calls Tryz.prog 220 #[.agg (replyCells r)] w fun e w' => e = .returned V ∧ Fr (fun _ => False) w w') := Lib.hid (fun w => by rw [hV]; exact bare_any r w)
  have HS : Hid (∀ b w, ReplyAt w b 45 r → Calls Tryz.prog 149 #[.pointer (some ⟨b, 0, none⟩)] w fun e w' => (∃ A c n, e = .returned (.agg #[.slice A n c, .bool (shV r), .bool (shR r), .bool (shOk r)])) ∧ Fr (fun _ => False) w w') := Lib.hid (fun b w hx =>
    (shapeOf_any b _ r w hx).mono fun e w' ⟨v, h1, h2, h3⟩ => by
      obtain ⟨A, c, hv⟩ := owns_slice h3
      exact ⟨⟨A, c, _, by rw [h1, hv]⟩, h2⟩)
  have HFt := Lib.hid (fun w => fits_any r.results w h3)
  have hq : ∀ w, (binOp .eql 45 V (.agg (replyCells r))).run Tryz.prog w = .ok (.bool (sameB (bareM r) r)) w := fun w => by rw [hV]; exact eql_reply _ _ w
  have hqg : ∀ x y w, (eqGuard .eql 45 x y V (.agg (replyCells r))).run Tryz.prog w = .ok () w := fun x y w => by rw [hV]; exact eqGuard_reply _ _ x y w
  have hfd : ∀ (A : Option Addr) (n c : Nat) (a b d : Bool) (w : World), (Instr.field 260 (.agg #[.slice A n c, .bool a, .bool b, .bool d]) 3).run Tryz.prog w = .ok (.bool d) w := fun _ _ _ _ _ _ _ => by kernel_rfl
  have hx := Lib.hid (show ReplyAt (w.alloc (.cells (replyCells r) 45)) w.heap.size 45 r from heap_alloc_new w _)
  have hfw := (Fr.refl (fun _ => False) w).alloc (.cells (replyCells r) 45)
  have key : mayReplyB r = (shOk r && sameB (bareM r) r && decide (0 ≤ r.why) && decide (r.why ≤ 14) && fitsB r.results) := rfl
  generalize sameB (bareM r) r = sm at hq key
  generalize mayReplyB r = m at key ⊢
  generalize fitsB r.results = ft at HFt key
  generalize shOk r = ok at HS key
  generalize shV r = v1 at HS
  generalize shR r = v2 at HS
  clear hV h3
  unfold replyCells at *
  have KEY := Lib.hid key
  clear key
  generalize hw1 : w.alloc _ = w1 at hx hfw
  cases ok
  case false =>
    have hm : m = false := by rw [KEY.out]; simp
    go_enter Tryz.func153, Tryz.ntmps153
    go_upto_region 1 with fail
    (try rw [hw1])
    clear hw1
    obtain ⟨n0, n1, n2, n3, n4, n5, n6, n7, n8, n9⟩ := reply_cells10 hx.out
    have hlx := lt_of_block hx.out
    first | (go_region_with (first
      | (go_at_call 149; refine (HS.out _ _ (by exact hx.out)).mono ?_; rintro e w4 ⟨⟨A, c, n, rfl⟩, hf4⟩; (try have hf4 := Fr.ofDrewR hf4); have hx := Lib.hid (hx.out.fr hf4 id); have hfw := hfw.then hf4 (fun _ _ h => h); obtain ⟨n0, n1, n2, n3, n4, n5, n6, n7, n8, n9⟩ := reply_cells10 hx.out; have hlx := lt_of_block hx.out)
      | (go_at_call 220; refine (HB.out _).mono ?_; rintro e w4 ⟨rfl, hf4⟩; (try have hf4 := Fr.ofDrewR hf4); have hx := Lib.hid (hx.out.fr hf4 id); have hfw := hfw.then hf4 (fun _ _ h => h); obtain ⟨n0, n1, n2, n3, n4, n5, n6, n7, n8, n9⟩ := reply_cells10 hx.out; have hlx := lt_of_block hx.out)
      | (go_at_call 185; refine (HFt.out _).mono ?_; rintro e w4 ⟨rfl, rfl⟩))) | fail
    all_goals
      go_wp2
      go_ret
      exact ⟨by rw [hm]; rfl, hfw⟩
  cases sm
  case false =>
    have hm : m = false := by rw [KEY.out]; simp
    go_enter Tryz.func153, Tryz.ntmps153
    go_upto_region 1 with fail
    (try rw [hw1])
    clear hw1
    obtain ⟨n0, n1, n2, n3, n4, n5, n6, n7, n8, n9⟩ := reply_cells10 hx.out
    have hlx := lt_of_block hx.out
    first | (go_region_with (first
      | (go_at_call 149; refine (HS.out _ _ (by exact hx.out)).mono ?_; rintro e w4 ⟨⟨A, c, n, rfl⟩, hf4⟩; (try have hf4 := Fr.ofDrewR hf4); have hx := Lib.hid (hx.out.fr hf4 id); have hfw := hfw.then hf4 (fun _ _ h => h); obtain ⟨n0, n1, n2, n3, n4, n5, n6, n7, n8, n9⟩ := reply_cells10 hx.out; have hlx := lt_of_block hx.out)
      | (go_at_call 220; refine (HB.out _).mono ?_; rintro e w4 ⟨rfl, hf4⟩; (try have hf4 := Fr.ofDrewR hf4); have hx := Lib.hid (hx.out.fr hf4 id); have hfw := hfw.then hf4 (fun _ _ h => h); obtain ⟨n0, n1, n2, n3, n4, n5, n6, n7, n8, n9⟩ := reply_cells10 hx.out; have hlx := lt_of_block hx.out)
      | (go_at_call 185; refine (HFt.out _).mono ?_; rintro e w4 ⟨rfl, rfl⟩))) | fail
    all_goals
      go_wp2
      go_ret
      exact ⟨by rw [hm]; rfl, hfw⟩
  by_cases y0 : 0 ≤ r.why
  case neg =>
    have y0' := Int.not_le.1 y0
    have hm : m = false := by rw [KEY.out]; simp; intros; omega
    go_enter Tryz.func153, Tryz.ntmps153
    go_upto_region 1 with fail
    (try rw [hw1])
    clear hw1
    obtain ⟨n0, n1, n2, n3, n4, n5, n6, n7, n8, n9⟩ := reply_cells10 hx.out
    have hlx := lt_of_block hx.out
    first | (go_region_with (first
      | (go_at_call 149; refine (HS.out _ _ (by exact hx.out)).mono ?_; rintro e w4 ⟨⟨A, c, n, rfl⟩, hf4⟩; (try have hf4 := Fr.ofDrewR hf4); have hx := Lib.hid (hx.out.fr hf4 id); have hfw := hfw.then hf4 (fun _ _ h => h); obtain ⟨n0, n1, n2, n3, n4, n5, n6, n7, n8, n9⟩ := reply_cells10 hx.out; have hlx := lt_of_block hx.out)
      | (go_at_call 220; refine (HB.out _).mono ?_; rintro e w4 ⟨rfl, hf4⟩; (try have hf4 := Fr.ofDrewR hf4); have hx := Lib.hid (hx.out.fr hf4 id); have hfw := hfw.then hf4 (fun _ _ h => h); obtain ⟨n0, n1, n2, n3, n4, n5, n6, n7, n8, n9⟩ := reply_cells10 hx.out; have hlx := lt_of_block hx.out)
      | (go_at_call 185; refine (HFt.out _).mono ?_; rintro e w4 ⟨rfl, rfl⟩))) | fail
    all_goals
      go_wp2
      go_ret
      exact ⟨by rw [hm]; rfl, hfw⟩
  by_cases y14 : r.why ≤ 14
  case neg =>
    have y14' := Int.not_le.1 y14
    have hm : m = false := by rw [KEY.out]; simp; intros; omega
    go_enter Tryz.func153, Tryz.ntmps153
    go_upto_region 1 with fail
    (try rw [hw1])
    clear hw1
    obtain ⟨n0, n1, n2, n3, n4, n5, n6, n7, n8, n9⟩ := reply_cells10 hx.out
    have hlx := lt_of_block hx.out
    first | (go_region_with (first
      | (go_at_call 149; refine (HS.out _ _ (by exact hx.out)).mono ?_; rintro e w4 ⟨⟨A, c, n, rfl⟩, hf4⟩; (try have hf4 := Fr.ofDrewR hf4); have hx := Lib.hid (hx.out.fr hf4 id); have hfw := hfw.then hf4 (fun _ _ h => h); obtain ⟨n0, n1, n2, n3, n4, n5, n6, n7, n8, n9⟩ := reply_cells10 hx.out; have hlx := lt_of_block hx.out)
      | (go_at_call 220; refine (HB.out _).mono ?_; rintro e w4 ⟨rfl, hf4⟩; (try have hf4 := Fr.ofDrewR hf4); have hx := Lib.hid (hx.out.fr hf4 id); have hfw := hfw.then hf4 (fun _ _ h => h); obtain ⟨n0, n1, n2, n3, n4, n5, n6, n7, n8, n9⟩ := reply_cells10 hx.out; have hlx := lt_of_block hx.out)
      | (go_at_call 185; refine (HFt.out _).mono ?_; rintro e w4 ⟨rfl, rfl⟩))) | fail
    all_goals
      go_wp2
      go_ret
      exact ⟨by rw [hm]; rfl, hfw⟩
  go_enter Tryz.func153, Tryz.ntmps153
  go_upto_region 1 with fail
  (try rw [hw1])
  clear hw1
  first | (go_region_held3 (fun w' => w'.cell? ⟨w.heap.size, 0, none⟩ = some (.int .i64 r.xid) ∧ w'.cell? ⟨w.heap.size, 1, none⟩ = some (.bool r.denied) ∧ w'.cell? ⟨w.heap.size, 2, none⟩ = some (.int .i64 r.verf.flavor) ∧ w'.cell? ⟨w.heap.size, 3, none⟩ = some (.string r.verf.body) ∧ w'.cell? ⟨w.heap.size, 4, none⟩ = some (.int .i64 r.accept) ∧ w'.cell? ⟨w.heap.size, 5, none⟩ = some (.int .i64 r.reject) ∧ w'.cell? ⟨w.heap.size, 6, none⟩ = some (.int .i64 r.why) ∧ w'.cell? ⟨w.heap.size, 7, none⟩ = some (.int .i64 r.low) ∧ w'.cell? ⟨w.heap.size, 8, none⟩ = some (.int .i64 r.high) ∧ w'.cell? ⟨w.heap.size, 9, none⟩ = some (.string r.results)) (exact reply_cells10 hx.out) (first
    | (go_at_call 149; refine (HS.out _ _ (by exact hx.out)).mono ?_; rintro e w4 ⟨⟨A, c, n, rfl⟩, hf4⟩; (try have hf4 := Fr.ofDrewR hf4); have hx := Lib.hid (hx.out.fr hf4 id); have hfw := hfw.then hf4 (fun _ _ h => h))
    | (go_at_call 220; refine (HB.out _).mono ?_; rintro e w4 ⟨rfl, hf4⟩; (try have hf4 := Fr.ofDrewR hf4); have hx := Lib.hid (hx.out.fr hf4 id); have hfw := hfw.then hf4 (fun _ _ h => h))
    | (go_at_call 185; refine (HFt.out _).mono ?_; rintro e w4 ⟨rfl, rfl⟩))) | fail
  all_goals
    go_wp2
    go_ret
    exact ⟨by rw [KEY.out]; simp [y0, y14], hfw⟩
end Go.Proofs.YtbegjpmifcnieaaGreatDoor
