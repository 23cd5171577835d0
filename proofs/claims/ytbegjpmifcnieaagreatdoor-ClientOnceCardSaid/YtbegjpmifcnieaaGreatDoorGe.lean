/- A client: Call, where it refuses. -/
import Derived.Test.YtbegjpmifcnieaaGreatDoorEi
namespace Go.Proofs.YtbegjpmifcnieaaGreatDoor
open Go.RowKit
set_option linter.unusedVariables false
set_option linter.unusedSimpArgs false

/-- why a call is refused; 0: it is not. -/
def refuseM (S : CliS) (dst prog vers proc : Int) (args : ByteArray) : Int :=
  if (isAddrB dst && isWordB prog && isWordB vers && isWordB proc) = false then 1
  else if 1000 < args.size ∨ args.size % 4 ≠ 0 then 173
  else if S.cfg.window ≤ S.next - waterM S then 171
  else if S.next = 4294967296 then 172
  else 0
theorem refuse_may {S : CliS} {dst prog vers proc : Int} {args : ByteArray} (h : refuseM S dst prog vers proc args = 0) : CallMay S dst prog vers proc args := by
  unfold refuseM at h
  split at h
  · cases h
  split at h
  · cases h
  split at h
  · cases h
  split at h
  · cases h
  rename_i h1 h2 h3 h4
  simp only [Bool.not_eq_false, Bool.and_eq_true] at h1
  exact ⟨h1.1.1.1, h1.1.1.2, h1.1.2, h1.2, by omega, by omega, by omega, h4⟩

set_option maxRecDepth 100000 in
set_option maxHeartbeats 2000000 in
theorem Call_addr {w : World} {b : Nat} {S : CliS} (h : Cli w b S) (hn : CliN S) (dst prog vers proc : Int) (args : ByteArray) (hsz : args.size ≤ 140737488351232) (ma : isAddrB dst = false) :
    Calls Tryz.prog 49 #[.pointer (some ⟨b, 0, none⟩), .int .i64 dst, .int .i64 prog, .int .i64 vers, .int .i64 proc, .string args] w fun e w' => e = .returned (.tuple #[.int .i64 0, .int .i64 1]) ∧ Fr (fun _ => False) w w' := by
  obtain ⟨w6, e6, b0, b1, b2, b3, b4, b5⟩ := heap_six w (.cells #[.pointer (some ⟨b, 0, none⟩)] 48) (.cells #[.int .i64 dst] 3) (.cells #[.int .i64 prog] 3) (.cells #[.int .i64 vers] 3) (.cells #[.int .i64 proc] 3) (.cells #[.string args] 9)
  have hf6 : Fr (fun _ => False) w w6 := by rw [e6]; exact ((((((Fr.refl _ _).alloc _).alloc _).alloc _).alloc _).alloc _).alloc _
  have H6 := Lib.hid (h.grown hf6)
  have E6 := Lib.hid e6
  have HF6 := Lib.hid hf6
  clear e6 hf6
  have x0 := cellOf b0 0
  have x1 := cellOf b1 0
  have x2 := cellOf b2 0
  have x3 := cellOf b3 0
  have x4 := cellOf b4 0
  have x5 := cellOf b5 0
  clear b0 b1 b2 b3 b4 b5 h
  go_enter Tryz.func49, Tryz.ntmps49
  go_wp2_with fail
  rw [← E6.out]
  refine (isAddress_any _ _).mono ?_
  rintro e w' ⟨rfl, rfl⟩
  rw [ma]
  go_wp2_with (go_at_call 124; refine (isWordL_any _ _).mono ?_; rintro e w' ⟨rfl, rfl⟩)
  go_ret2
  exact ⟨rfl, HF6.out⟩

set_option maxRecDepth 100000 in
set_option maxHeartbeats 2000000 in
theorem Call_prog {w : World} {b : Nat} {S : CliS} (h : Cli w b S) (hn : CliN S) (dst prog vers proc : Int) (args : ByteArray) (hsz : args.size ≤ 140737488351232) (ma : isAddrB dst = true) (mp : isWordB prog = false) :
    Calls Tryz.prog 49 #[.pointer (some ⟨b, 0, none⟩), .int .i64 dst, .int .i64 prog, .int .i64 vers, .int .i64 proc, .string args] w fun e w' => e = .returned (.tuple #[.int .i64 0, .int .i64 1]) ∧ Fr (fun _ => False) w w' := by
  obtain ⟨w6, e6, b0, b1, b2, b3, b4, b5⟩ := heap_six w (.cells #[.pointer (some ⟨b, 0, none⟩)] 48) (.cells #[.int .i64 dst] 3) (.cells #[.int .i64 prog] 3) (.cells #[.int .i64 vers] 3) (.cells #[.int .i64 proc] 3) (.cells #[.string args] 9)
  have hf6 : Fr (fun _ => False) w w6 := by rw [e6]; exact ((((((Fr.refl _ _).alloc _).alloc _).alloc _).alloc _).alloc _).alloc _
  have H6 := Lib.hid (h.grown hf6)
  have E6 := Lib.hid e6
  have HF6 := Lib.hid hf6
  clear e6 hf6
  have x0 := cellOf b0 0
  have x1 := cellOf b1 0
  have x2 := cellOf b2 0
  have x3 := cellOf b3 0
  have x4 := cellOf b4 0
  have x5 := cellOf b5 0
  clear b0 b1 b2 b3 b4 b5 h
  go_enter Tryz.func49, Tryz.ntmps49
  go_wp2_with fail
  rw [← E6.out]
  refine (isAddress_any _ _).mono ?_
  rintro e w' ⟨rfl, rfl⟩
  rw [ma]
  go_wp2_with (go_at_call 124; refine (isWordL_any _ _).mono ?_; rintro e w' ⟨rfl, rfl⟩)
  go_ret2
  exact ⟨rfl, HF6.out⟩

set_option maxRecDepth 100000 in
set_option maxHeartbeats 2000000 in
theorem Call_vers {w : World} {b : Nat} {S : CliS} (h : Cli w b S) (hn : CliN S) (dst prog vers proc : Int) (args : ByteArray) (hsz : args.size ≤ 140737488351232) (ma : isAddrB dst = true) (mp : isWordB prog = true) (mv : isWordB vers = false) :
    Calls Tryz.prog 49 #[.pointer (some ⟨b, 0, none⟩), .int .i64 dst, .int .i64 prog, .int .i64 vers, .int .i64 proc, .string args] w fun e w' => e = .returned (.tuple #[.int .i64 0, .int .i64 1]) ∧ Fr (fun _ => False) w w' := by
  obtain ⟨w6, e6, b0, b1, b2, b3, b4, b5⟩ := heap_six w (.cells #[.pointer (some ⟨b, 0, none⟩)] 48) (.cells #[.int .i64 dst] 3) (.cells #[.int .i64 prog] 3) (.cells #[.int .i64 vers] 3) (.cells #[.int .i64 proc] 3) (.cells #[.string args] 9)
  have hf6 : Fr (fun _ => False) w w6 := by rw [e6]; exact ((((((Fr.refl _ _).alloc _).alloc _).alloc _).alloc _).alloc _).alloc _
  have H6 := Lib.hid (h.grown hf6)
  have E6 := Lib.hid e6
  have HF6 := Lib.hid hf6
  clear e6 hf6
  have x0 := cellOf b0 0
  have x1 := cellOf b1 0
  have x2 := cellOf b2 0
  have x3 := cellOf b3 0
  have x4 := cellOf b4 0
  have x5 := cellOf b5 0
  clear b0 b1 b2 b3 b4 b5 h
  go_enter Tryz.func49, Tryz.ntmps49
  go_wp2_with fail
  rw [← E6.out]
  refine (isAddress_any _ _).mono ?_
  rintro e w' ⟨rfl, rfl⟩
  rw [ma]
  go_wp2_with (go_at_call 124; refine (isWordL_any _ _).mono ?_; rintro e w' ⟨rfl, rfl⟩)
  go_ret2
  exact ⟨rfl, HF6.out⟩

set_option maxRecDepth 100000 in
set_option maxHeartbeats 2000000 in
theorem Call_proc {w : World} {b : Nat} {S : CliS} (h : Cli w b S) (hn : CliN S) (dst prog vers proc : Int) (args : ByteArray) (hsz : args.size ≤ 140737488351232) (ma : isAddrB dst = true) (mp : isWordB prog = true) (mv : isWordB vers = true) (mq : isWordB proc = false) :
    Calls Tryz.prog 49 #[.pointer (some ⟨b, 0, none⟩), .int .i64 dst, .int .i64 prog, .int .i64 vers, .int .i64 proc, .string args] w fun e w' => e = .returned (.tuple #[.int .i64 0, .int .i64 1]) ∧ Fr (fun _ => False) w w' := by
  obtain ⟨w6, e6, b0, b1, b2, b3, b4, b5⟩ := heap_six w (.cells #[.pointer (some ⟨b, 0, none⟩)] 48) (.cells #[.int .i64 dst] 3) (.cells #[.int .i64 prog] 3) (.cells #[.int .i64 vers] 3) (.cells #[.int .i64 proc] 3) (.cells #[.string args] 9)
  have hf6 : Fr (fun _ => False) w w6 := by rw [e6]; exact ((((((Fr.refl _ _).alloc _).alloc _).alloc _).alloc _).alloc _).alloc _
  have H6 := Lib.hid (h.grown hf6)
  have E6 := Lib.hid e6
  have HF6 := Lib.hid hf6
  clear e6 hf6
  have x0 := cellOf b0 0
  have x1 := cellOf b1 0
  have x2 := cellOf b2 0
  have x3 := cellOf b3 0
  have x4 := cellOf b4 0
  have x5 := cellOf b5 0
  clear b0 b1 b2 b3 b4 b5 h
  go_enter Tryz.func49, Tryz.ntmps49
  go_wp2_with fail
  rw [← E6.out]
  refine (isAddress_any _ _).mono ?_
  rintro e w' ⟨rfl, rfl⟩
  rw [ma]
  go_wp2_with (go_at_call 124; refine (isWordL_any _ _).mono ?_; rintro e w' ⟨rfl, rfl⟩)
  go_ret2
  exact ⟨rfl, HF6.out⟩

set_option maxRecDepth 100000 in
set_option maxHeartbeats 2000000 in
theorem Call_long {w : World} {b : Nat} {S : CliS} (h : Cli w b S) (hn : CliN S) (dst prog vers proc : Int) (args : ByteArray) (hsz : args.size ≤ 140737488351232) (ma : isAddrB dst = true) (mp : isWordB prog = true) (mv : isWordB vers = true) (mq : isWordB proc = true) (ml : 1000 < args.size) :
    Calls Tryz.prog 49 #[.pointer (some ⟨b, 0, none⟩), .int .i64 dst, .int .i64 prog, .int .i64 vers, .int .i64 proc, .string args] w fun e w' => e = .returned (.tuple #[.int .i64 0, .int .i64 173]) ∧ Fr (fun _ => False) w w' := by
  obtain ⟨w6, e6, b0, b1, b2, b3, b4, b5⟩ := heap_six w (.cells #[.pointer (some ⟨b, 0, none⟩)] 48) (.cells #[.int .i64 dst] 3) (.cells #[.int .i64 prog] 3) (.cells #[.int .i64 vers] 3) (.cells #[.int .i64 proc] 3) (.cells #[.string args] 9)
  have hf6 : Fr (fun _ => False) w w6 := by rw [e6]; exact ((((((Fr.refl _ _).alloc _).alloc _).alloc _).alloc _).alloc _).alloc _
  have H6 := Lib.hid (h.grown hf6)
  have E6 := Lib.hid e6
  have HF6 := Lib.hid hf6
  clear e6 hf6
  have x0 := cellOf b0 0
  have x1 := cellOf b1 0
  have x2 := cellOf b2 0
  have x3 := cellOf b3 0
  have x4 := cellOf b4 0
  have x5 := cellOf b5 0
  clear b0 b1 b2 b3 b4 b5 h
  have ml2 : (1000 : Int) < args.size := by omega
  clear ml
  go_enter Tryz.func49, Tryz.ntmps49
  go_wp2_with fail
  rw [← E6.out]
  refine (isAddress_any _ _).mono ?_
  rintro e w' ⟨rfl, rfl⟩
  rw [ma]
  go_wp2_with (go_at_call 124; refine (isWordL_any _ _).mono ?_; rintro e w' ⟨rfl, rfl⟩)
  go_ret2
  exact ⟨rfl, HF6.out⟩

set_option maxRecDepth 100000 in
set_option maxHeartbeats 2000000 in
theorem Call_odd {w : World} {b : Nat} {S : CliS} (h : Cli w b S) (hn : CliN S) (dst prog vers proc : Int) (args : ByteArray) (hsz : args.size ≤ 140737488351232) (ma : isAddrB dst = true) (mp : isWordB prog = true) (mv : isWordB vers = true) (mq : isWordB proc = true) (ml : args.size ≤ 1000) (mm : args.size % 4 ≠ 0) :
    Calls Tryz.prog 49 #[.pointer (some ⟨b, 0, none⟩), .int .i64 dst, .int .i64 prog, .int .i64 vers, .int .i64 proc, .string args] w fun e w' => e = .returned (.tuple #[.int .i64 0, .int .i64 173]) ∧ Fr (fun _ => False) w w' := by
  obtain ⟨w6, e6, b0, b1, b2, b3, b4, b5⟩ := heap_six w (.cells #[.pointer (some ⟨b, 0, none⟩)] 48) (.cells #[.int .i64 dst] 3) (.cells #[.int .i64 prog] 3) (.cells #[.int .i64 vers] 3) (.cells #[.int .i64 proc] 3) (.cells #[.string args] 9)
  have hf6 : Fr (fun _ => False) w w6 := by rw [e6]; exact ((((((Fr.refl _ _).alloc _).alloc _).alloc _).alloc _).alloc _).alloc _
  have H6 := Lib.hid (h.grown hf6)
  have E6 := Lib.hid e6
  have HF6 := Lib.hid hf6
  clear e6 hf6
  have x0 := cellOf b0 0
  have x1 := cellOf b1 0
  have x2 := cellOf b2 0
  have x3 := cellOf b3 0
  have x4 := cellOf b4 0
  have x5 := cellOf b5 0
  clear b0 b1 b2 b3 b4 b5 h
  have ml2 : (args.size : Int) ≤ 1000 := by omega
  have mm2 : ((args.size : Int) % 4 != 0) = true := by rw [bne_iff_ne]; omega
  clear ml mm
  go_enter Tryz.func49, Tryz.ntmps49
  go_wp2_with fail
  rw [← E6.out]
  refine (isAddress_any _ _).mono ?_
  rintro e w' ⟨rfl, rfl⟩
  rw [ma]
  go_wp2_with (go_at_call 124; refine (isWordL_any _ _).mono ?_; rintro e w' ⟨rfl, rfl⟩)
  go_ret2
  exact ⟨rfl, HF6.out⟩

set_option maxRecDepth 100000 in
set_option maxHeartbeats 2000000 in
theorem Call_window {w : World} {b : Nat} {S : CliS} (h : Cli w b S) (hn : CliN S) (dst prog vers proc : Int) (args : ByteArray) (hsz : args.size ≤ 140737488351232) (ma : isAddrB dst = true) (mp : isWordB prog = true) (mv : isWordB vers = true) (mq : isWordB proc = true) (ml : args.size ≤ 1000) (mm : args.size % 4 = 0) (mw : S.cfg.window ≤ S.next - waterM S) :
    Calls Tryz.prog 49 #[.pointer (some ⟨b, 0, none⟩), .int .i64 dst, .int .i64 prog, .int .i64 vers, .int .i64 proc, .string args] w fun e w' => e = .returned (.tuple #[.int .i64 0, .int .i64 171]) ∧ Fr (fun _ => False) w w' := by
  obtain ⟨w6, e6, b0, b1, b2, b3, b4, b5⟩ := heap_six w (.cells #[.pointer (some ⟨b, 0, none⟩)] 48) (.cells #[.int .i64 dst] 3) (.cells #[.int .i64 prog] 3) (.cells #[.int .i64 vers] 3) (.cells #[.int .i64 proc] 3) (.cells #[.string args] 9)
  have hf6 : Fr (fun _ => False) w w6 := by rw [e6]; exact ((((((Fr.refl _ _).alloc _).alloc _).alloc _).alloc _).alloc _).alloc _
  have H6 := Lib.hid (h.grown hf6)
  have E6 := Lib.hid e6
  have HF6 := Lib.hid hf6
  clear e6 hf6
  have x0 := cellOf b0 0
  have x1 := cellOf b1 0
  have x2 := cellOf b2 0
  have x3 := cellOf b3 0
  have x4 := cellOf b4 0
  have x5 := cellOf b5 0
  clear b0 b1 b2 b3 b4 b5 h
  have ml2 : (args.size : Int) ≤ 1000 := by omega
  have mm2 : (args.size : Int) % 4 = 0 := by omega
  clear ml mm
  go_enter Tryz.func49, Tryz.ntmps49
  go_wp2_with fail
  rw [← E6.out]
  refine (isAddress_any _ _).mono ?_
  rintro e w' ⟨rfl, rfl⟩
  rw [ma]
  go_wp2_with (go_at_call 124; refine (isWordL_any _ _).mono ?_; rintro e w' ⟨rfl, rfl⟩)
  have n12 := H6.out.c12
  have n3 : w6.cell? ⟨b, 3, none⟩ = some (.int .i64 S.cfg.window) := cellOf H6.out.box 3
  have hW := Lib.hid (fun (w' : World) (e : w'.heap = w6.heap) => Water_any (H6.out.heap e))
  have hb := Lib.hid (lt_of_block H6.out.box)
  obtain ⟨nn0, nn1, nw0, nw1, nl, no, nt0, nt1⟩ := hn
  generalize waterM S = wt at hW mw nw0 nw1
  clear ma mp mv mq ml2 mm2
  go_quiet ((go_at_call 53; exact Calls.quiet_of_same (hW.out _ rfl)))
  go_wp2_with fail
  go_ret2
  exact ⟨rfl, HF6.out.trans ((Fr.refl _ _).drewN nq)⟩

set_option maxRecDepth 100000 in
set_option maxHeartbeats 2000000 in
theorem Call_worn {w : World} {b : Nat} {S : CliS} (h : Cli w b S) (hn : CliN S) (dst prog vers proc : Int) (args : ByteArray) (hsz : args.size ≤ 140737488351232) (ma : isAddrB dst = true) (mp : isWordB prog = true) (mv : isWordB vers = true) (mq : isWordB proc = true) (ml : args.size ≤ 1000) (mm : args.size % 4 = 0) (mw : S.next - waterM S < S.cfg.window) (me : S.next = 4294967296) :
    Calls Tryz.prog 49 #[.pointer (some ⟨b, 0, none⟩), .int .i64 dst, .int .i64 prog, .int .i64 vers, .int .i64 proc, .string args] w fun e w' => e = .returned (.tuple #[.int .i64 0, .int .i64 172]) ∧ Fr (fun _ => False) w w' := by
  obtain ⟨w6, e6, b0, b1, b2, b3, b4, b5⟩ := heap_six w (.cells #[.pointer (some ⟨b, 0, none⟩)] 48) (.cells #[.int .i64 dst] 3) (.cells #[.int .i64 prog] 3) (.cells #[.int .i64 vers] 3) (.cells #[.int .i64 proc] 3) (.cells #[.string args] 9)
  have hf6 : Fr (fun _ => False) w w6 := by rw [e6]; exact ((((((Fr.refl _ _).alloc _).alloc _).alloc _).alloc _).alloc _).alloc _
  have H6 := Lib.hid (h.grown hf6)
  have E6 := Lib.hid e6
  have HF6 := Lib.hid hf6
  clear e6 hf6
  have x0 := cellOf b0 0
  have x1 := cellOf b1 0
  have x2 := cellOf b2 0
  have x3 := cellOf b3 0
  have x4 := cellOf b4 0
  have x5 := cellOf b5 0
  clear b0 b1 b2 b3 b4 b5 h
  have ml2 : (args.size : Int) ≤ 1000 := by omega
  have mm2 : (args.size : Int) % 4 = 0 := by omega
  clear ml mm
  go_enter Tryz.func49, Tryz.ntmps49
  go_wp2_with fail
  rw [← E6.out]
  refine (isAddress_any _ _).mono ?_
  rintro e w' ⟨rfl, rfl⟩
  rw [ma]
  go_wp2_with (go_at_call 124; refine (isWordL_any _ _).mono ?_; rintro e w' ⟨rfl, rfl⟩)
  have n12 := H6.out.c12
  have n3 : w6.cell? ⟨b, 3, none⟩ = some (.int .i64 S.cfg.window) := cellOf H6.out.box 3
  have hW := Lib.hid (fun (w' : World) (e : w'.heap = w6.heap) => Water_any (H6.out.heap e))
  have hb := Lib.hid (lt_of_block H6.out.box)
  obtain ⟨nn0, nn1, nw0, nw1, nl, no, nt0, nt1⟩ := hn
  generalize waterM S = wt at hW mw nw0 nw1
  clear ma mp mv mq ml2 mm2
  go_quiet ((go_at_call 53; exact Calls.quiet_of_same (hW.out _ rfl)))
  go_wp2_with fail
  go_ret2
  exact ⟨rfl, HF6.out.trans ((Fr.refl _ _).drewN nq)⟩

/-- client.Call where it refuses: nothing is changed. -/
theorem Call_no {w : World} {b : Nat} {S : CliS} (h : Cli w b S) (hn : CliN S) (dst prog vers proc : Int) (args : ByteArray) (hsz : args.size ≤ 140737488351232) (hr : refuseM S dst prog vers proc args ≠ 0) :
    Calls Tryz.prog 49 #[.pointer (some ⟨b, 0, none⟩), .int .i64 dst, .int .i64 prog, .int .i64 vers, .int .i64 proc, .string args] w fun e w' => e = .returned (.tuple #[.int .i64 0, .int .i64 (refuseM S dst prog vers proc args)]) ∧ Fr (fun _ => False) w w' := by
  have key : ∀ x : Bool, x = true ∨ x = false := by decide
  unfold refuseM at hr ⊢
  rcases key (isAddrB dst) with ma | ma
  case inr => rw [if_pos (by rw [ma]; rfl)]; exact Call_addr h hn dst prog vers proc args hsz ma
  rcases key (isWordB prog) with mp | mp
  case inr => rw [if_pos (by rw [ma, mp]; rfl)]; exact Call_prog h hn dst prog vers proc args hsz ma mp
  rcases key (isWordB vers) with mv | mv
  case inr => rw [if_pos (by rw [ma, mp, mv]; rfl)]; exact Call_vers h hn dst prog vers proc args hsz ma mp mv
  rcases key (isWordB proc) with mq | mq
  case inr => rw [if_pos (by rw [ma, mp, mv, mq]; rfl)]; exact Call_proc h hn dst prog vers proc args hsz ma mp mv mq
  have hall : ¬ (isAddrB dst && isWordB prog && isWordB vers && isWordB proc) = false := by rw [ma, mp, mv, mq]; decide
  rw [if_neg hall] at hr ⊢
  by_cases ml : 1000 < args.size
  · rw [if_pos (.inl ml)]; exact Call_long h hn dst prog vers proc args hsz ma mp mv mq ml
  by_cases mm : args.size % 4 = 0
  case neg => rw [if_pos (.inr mm)]; exact Call_odd h hn dst prog vers proc args hsz ma mp mv mq (by omega) mm
  rw [if_neg (by omega)] at hr ⊢
  by_cases mw : S.cfg.window ≤ S.next - waterM S
  · rw [if_pos mw]; exact Call_window h hn dst prog vers proc args hsz ma mp mv mq (by omega) mm mw
  rw [if_neg mw] at hr ⊢
  by_cases me : S.next = 4294967296
  · rw [if_pos me]; exact Call_worn h hn dst prog vers proc args hsz ma mp mv mq (by omega) mm (by omega) me
  rw [if_neg me] at hr
  exact absurd rfl hr
end Go.Proofs.YtbegjpmifcnieaaGreatDoor
