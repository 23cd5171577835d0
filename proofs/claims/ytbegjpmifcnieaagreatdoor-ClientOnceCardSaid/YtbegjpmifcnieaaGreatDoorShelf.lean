/-
  DERIVED: THE SHELF's CONTRACTS AT THIS DUMP, IN PLAIN WORDS (tools/lay-plain.mjs out of 'YtbegjpmifcnieaaGreatDoorShelf.lean', which tools/lay-shelf.mjs wrote): THE SAME DECLARATIONS UNDER THE SAME NAMES: 'import', 'namespace', 'open', 'def', 'theorem' AND NOTHING ELSE: no command of the shelf's: FOR A HAND-IN. Each laying: the table of numbers ('.._ren') and one theorem, a field a fact of the dump's own or the kernel's comparison; each contract: ONE APPLICATION.
-/
import Derived.Shelf.Strings.Trim
import Derived.Shelf.Strings.Repeat
import Derived.Shelf.Slices.Clone
import Derived.Ground.SlgnProg
import Derived.Shelf.SlicesE.Clone
import Derived.Ground.SlgfProg
import Derived.Shelf.SlicesE.DeleteFunc
import Derived.Ground.Names2Prog
import Derived.Test.YtbegjpmifcnieaaGreatDoorProg
namespace Go.Proofs
open Go.Shelf
def Tryz.lays160_ren : Go.Shelf.Ren := ⟨fun | 160 => 274 | 232 => 289 | 231 => 288 | 227 => 290 | 234 => 292 | 233 => 291 | 236 => 294 | 235 => 293 | 228 => 301 | 271 => 304 | 151 => 303 | 197 => 302 | 120 => 309 | 152 => 308 | 260 => 307 | 137 => 310 | 119 => 311 | 224 => 312 | 225 => 313 | 217 => 314 | 266 => 315 | n => n, fun | 9 => 9 | 4 => 4 | 3 => 3 | 5 => 5 | 117 => 410 | 116 => 409 | 0 => 0 | 124 => 413 | 21 => 21 | 105 => 421 | 46 => 352 | 119 => 427 | 139 => 430 | 138 => 429 | n => n, fun | 3 => 2 | 4 => 3 | n => n⟩
theorem Tryz.lays160 : Go.Proofs.Lays.n160 Tryz.prog Tryz.lays160_ren := {
  mixed := by kernel_rfl
  f119 := Tryz.func311.trans (congrArg some (by kernel_rfl))
  f120 := Tryz.func309.trans (congrArg some (by kernel_rfl))
  f137 := Tryz.func310.trans (congrArg some (by kernel_rfl))
  f151 := Tryz.func303.trans (congrArg some (by kernel_rfl))
  f152 := Tryz.func308.trans (congrArg some (by kernel_rfl))
  f160 := Tryz.func274.trans (congrArg some (by kernel_rfl))
  f197 := Tryz.func302.trans (congrArg some (by kernel_rfl))
  f217 := Tryz.func314.trans (congrArg some (by kernel_rfl))
  f224 := Tryz.func312.trans (congrArg some (by kernel_rfl))
  f225 := Tryz.func313.trans (congrArg some (by kernel_rfl))
  f227 := Tryz.func290.trans (congrArg some (by kernel_rfl))
  f228 := Tryz.func301.trans (congrArg some (by kernel_rfl))
  f231 := Tryz.func288.trans (congrArg some (by kernel_rfl))
  f232 := Tryz.func289.trans (congrArg some (by kernel_rfl))
  f233 := Tryz.func291.trans (congrArg some (by kernel_rfl))
  f234 := Tryz.func292.trans (congrArg some (by kernel_rfl))
  f235 := Tryz.func293.trans (congrArg some (by kernel_rfl))
  f236 := Tryz.func294.trans (congrArg some (by kernel_rfl))
  f260 := Tryz.func307.trans (congrArg some (by kernel_rfl))
  f266 := Tryz.func315.trans (congrArg some (by kernel_rfl))
  f271 := Tryz.func304.trans (congrArg some (by kernel_rfl))
  t0 := Tryz.underlying0
  a0 := Tryz.isAgg0
  z0 := Tryz.sizeOf0
  v0 := Tryz.zeroValue0
  t3 := Tryz.underlying3
  a3 := Tryz.isAgg3
  z3 := Tryz.sizeOf3
  v3 := Tryz.zeroValue3
  t4 := Tryz.underlying4
  a4 := Tryz.isAgg4
  z4 := Tryz.sizeOf4
  v4 := Tryz.zeroValue4
  t5 := Tryz.underlying5
  a5 := Tryz.isAgg5
  z5 := Tryz.sizeOf5
  v5 := Tryz.zeroValue5
  t9 := Tryz.underlying9
  a9 := Tryz.isAgg9
  z9 := Tryz.sizeOf9
  v9 := Tryz.zeroValue9
  t21 := Tryz.underlying21
  a21 := Tryz.isAgg21
  z21 := Tryz.sizeOf21
  v21 := Tryz.zeroValue21
  t46 := Tryz.underlying352
  a46 := Tryz.isAgg352
  z46 := Tryz.sizeOf352
  v46 := Tryz.zeroValue352
  t105 := Tryz.underlying421
  a105 := Tryz.isAgg421
  z105 := Tryz.sizeOf421
  v105 := Tryz.zeroValue421
  t116 := Tryz.underlying409
  a116 := Tryz.isAgg409
  z116 := Tryz.sizeOf409
  t117 := Tryz.underlying410
  a117 := Tryz.isAgg410
  z117 := Tryz.sizeOf410
  v117 := Tryz.zeroValue410
  t119 := Tryz.underlying427
  a119 := Tryz.isAgg427
  z119 := Tryz.sizeOf427
  t124 := Tryz.underlying413
  a124 := Tryz.isAgg413
  z124 := Tryz.sizeOf413
  v124 := Tryz.zeroValue413
  t138 := Tryz.underlying429
  a138 := Tryz.isAgg429
  z138 := Tryz.sizeOf429
  v138 := Tryz.zeroValue429
  t139 := Tryz.underlying430
  a139 := Tryz.isAgg430
  z139 := Tryz.sizeOf430
  v139 := Tryz.zeroValue430
  g3 := by kernel_rfl
  g4 := by kernel_rfl }
open Go.RowKit in
/-- strings.Trim: "Trim returns a slice of the string s with all leading and trailing Unicode code points contained in cutset removed.": AT A cutset OF ONE ASCII BYTE. THE WORLD BEHIND IT: as it was, or (where s is not empty) with ONE DRAW MORE off the tape: the statement 'return trimLeftByte(trimRightByte(s, c), c)' draws its order of evaluation. (LAID: no walk: one application.) -/
theorem Tryz.strings_Trim_one (s : ByteArray) (c : UInt8) (hc : c.toNat < 128) (w : World) (hs : s.size ≤ 9223372036854775807) :
    Calls Tryz.prog 274 #[.string s, .string ⟨#[c]⟩] w fun e w' => e = .returned (.string ⟨(Lib.trimB s.data.toList c).toArray⟩) ∧ (w' = w ∨ w' = w.drew) := Any.strings_Trim_one Tryz.lays160 s c hc w hs
def Tryz.lays105_ren : Go.Shelf.Ren := ⟨fun | 105 => 267 | 212 => 279 | 99 => 280 | 165 => 281 | 166 => 282 | 170 => 283 | 169 => 284 | 263 => 296 | 264 => 297 | 206 => 298 | 240 => 299 | 241 => 300 | 276 => 305 | 277 => 306 | n => n, fun | 9 => 9 | 3 => 3 | 4 => 4 | 20 => 20 | 0 => 0 | 46 => 352 | 109 => 385 | 5 => 5 | 72 => 390 | 76 => 391 | 51 => 414 | 146 => 415 | 53 => 354 | 148 => 417 | 70 => 388 | 37 => 284 | 75 => 319 | 127 => 419 | 164 => 369 | 80 => 274 | n => n, fun | n => n⟩
theorem Tryz.lays105 : Go.Proofs.Lays.n105 Tryz.prog Tryz.lays105_ren := {
  mixed := by kernel_rfl
  f99 := Tryz.func280.trans (congrArg some (by kernel_rfl))
  f105 := Tryz.func267.trans (congrArg some (by kernel_rfl))
  f165 := Tryz.func281.trans (congrArg some (by kernel_rfl))
  f166 := Tryz.func282.trans (congrArg some (by kernel_rfl))
  f169 := Tryz.func284.trans (congrArg some (by kernel_rfl))
  f170 := Tryz.func283.trans (congrArg some (by kernel_rfl))
  f206 := Tryz.func298.trans (congrArg some (by kernel_rfl))
  f212 := Tryz.func279.trans (congrArg some (by kernel_rfl))
  f240 := Tryz.func299.trans (congrArg some (by kernel_rfl))
  f241 := Tryz.func300.trans (congrArg some (by kernel_rfl))
  f263 := Tryz.func296.trans (congrArg some (by kernel_rfl))
  f264 := Tryz.func297.trans (congrArg some (by kernel_rfl))
  f276 := Tryz.func305.trans (congrArg some (by kernel_rfl))
  f277 := Tryz.func306.trans (congrArg some (by kernel_rfl))
  t0 := Tryz.underlying0
  a0 := Tryz.isAgg0
  z0 := Tryz.sizeOf0
  v0 := Tryz.zeroValue0
  t3 := Tryz.underlying3
  a3 := Tryz.isAgg3
  z3 := Tryz.sizeOf3
  v3 := Tryz.zeroValue3
  t4 := Tryz.underlying4
  a4 := Tryz.isAgg4
  z4 := Tryz.sizeOf4
  v4 := Tryz.zeroValue4
  t5 := Tryz.underlying5
  a5 := Tryz.isAgg5
  z5 := Tryz.sizeOf5
  v5 := Tryz.zeroValue5
  t9 := Tryz.underlying9
  a9 := Tryz.isAgg9
  z9 := Tryz.sizeOf9
  v9 := Tryz.zeroValue9
  t20 := Tryz.underlying20
  a20 := Tryz.isAgg20
  z20 := Tryz.sizeOf20
  v20 := Tryz.zeroValue20
  t37 := Tryz.underlying284
  a37 := Tryz.isAgg284
  z37 := Tryz.sizeOf284
  v37 := Tryz.zeroValue284
  t46 := Tryz.underlying352
  a46 := Tryz.isAgg352
  z46 := Tryz.sizeOf352
  v46 := Tryz.zeroValue352
  t51 := Tryz.underlying414
  a51 := Tryz.isAgg414
  z51 := Tryz.sizeOf414
  v51 := Tryz.zeroValue414
  t53 := Tryz.underlying354
  a53 := Tryz.isAgg354
  z53 := Tryz.sizeOf354
  v53 := Tryz.zeroValue354
  t70 := Tryz.underlying388
  a70 := Tryz.isAgg388
  z70 := Tryz.sizeOf388
  v70 := Tryz.zeroValue388
  t72 := Tryz.underlying390
  a72 := Tryz.isAgg390
  z72 := Tryz.sizeOf390
  v72 := Tryz.zeroValue390
  t75 := Tryz.underlying319
  a75 := Tryz.isAgg319
  z75 := Tryz.sizeOf319
  v75 := Tryz.zeroValue319
  t76 := Tryz.underlying391
  a76 := Tryz.isAgg391
  z76 := Tryz.sizeOf391
  v76 := Tryz.zeroValue391
  t109 := Tryz.underlying385
  a109 := Tryz.isAgg385
  z109 := Tryz.sizeOf385
  v109 := Tryz.zeroValue385
  t127 := Tryz.underlying419
  a127 := Tryz.isAgg419
  z127 := Tryz.sizeOf419
  v127 := Tryz.zeroValue419
  t146 := Tryz.underlying415
  a146 := Tryz.isAgg415
  z146 := Tryz.sizeOf415
  v146 := Tryz.zeroValue415
  t148 := Tryz.underlying417
  a148 := Tryz.isAgg417
  z148 := Tryz.sizeOf417
  v148 := Tryz.zeroValue417
  t164 := Tryz.underlying369
  a164 := Tryz.isAgg369
  z164 := Tryz.sizeOf369
  v164 := Tryz.zeroValue369 }
theorem Tryz.Builder_Extra_105 : Builder.Extra Tryz.prog Tryz.lays105_ren := {
  sizeBuilder := by kernel_rfl
  liesBuilder := by kernel_rfl
  t5 := Tryz.underlying5
  a5 := Tryz.isAgg5
  z5 := Tryz.sizeOf5
  v5 := Tryz.zeroValue5
  infoByte := by kernel_rfl
  cellsByte := by kernel_rfl
  sizeByte := by kernel_rfl
  neB5 := by decide }
open Go.RowKit Go.Lib in
/-- **strings.Repeat: count ≥ 0, the result within one allocation: count copies of s.** (LAID: no walk: one application.) -/
theorem Tryz.strings_Repeat (s : ByteArray) (c : Nat) (w : World) (hc : c ≤ 9223372036854775807) (hlen : s.size * c ≤ 140737488355328) :
    Calls Tryz.prog 267 #[.string s, .int .i64 c] w fun e w' => e = .returned (.string ⟨(Lib.repeatL s.data.toList c).toArray⟩) ∧ Below w.heap.size w w' := Any.strings_Repeat Tryz.lays105 Tryz.Builder_Extra_105 s c w hc hlen
def Tryz.laysNm215_ren : Go.Shelf.Ren := ⟨fun | 15 => 77 | n => n, fun | 22 => 24 | 3 => 3 | 4 => 4 | n => n, fun | n => n⟩
theorem Tryz.laysNm215 : Go.Proofs.Lays2.n15 Tryz.prog Tryz.laysNm215_ren := {
  mixed := by kernel_rfl
  f15 := Tryz.func77.trans (congrArg some (by kernel_rfl))
  t3 := Tryz.underlying3
  a3 := Tryz.isAgg3
  z3 := Tryz.sizeOf3
  v3 := Tryz.zeroValue3
  t4 := Tryz.underlying4
  a4 := Tryz.isAgg4
  z4 := Tryz.sizeOf4
  v4 := Tryz.zeroValue4
  t22 := Tryz.underlying24
  a22 := Tryz.isAgg24
  z22 := Tryz.sizeOf24
  v22 := Tryz.zeroValue24
  i3 := by kernel_rfl }
open Go.RowKit Go.Lib in
/-- slices.Clone at []int: "Clone returns a copy of the slice. The elements are copied using assignment, so this is a shallow clone. The result may have additional unused capacity. The result preserves the nilness of s.": OF A SLICE THAT IS NOT nil IT RETURNS A SLICE THAT IS NOT nil, OF THE SAME ELEMENTS, IN MEMORY OF THE CALL's OWN: in the how-to's words (6f): 'w'.ownsRow B e 1 v' n cells': v' begins at the head of a row among the blocks from B on (B: the heap's size at the call), not frozen, whose first cells are the elements · 'Below B w w'': below B all is as it was. The capacity is whatever the run-time gives. 'zs': what the cells behind the slice's address hold; 'zs.take n': its elements. (LAID: no walk: one application.) -/
theorem Tryz.slices_Clone_int (b off n c : Nat) (zs : List Int) (w : World) (hz : n ≤ zs.length) (hbig : n * 8 ≤ 140737488355328) (hc : ∀ j, j < zs.length → w.cell? ⟨b, off + j, none⟩ = some (.int .i64 (zs.getD j 0))) :
    Calls Tryz.prog 77 #[.slice (some ⟨b, off, none⟩) n c] w fun e w' => ∃ v', e = .returned v' ∧ w'.ownsRow w.heap.size 3 1 v' n ((zs.take n).map (Value.int .i64)) ∧ v' ≠ .slice none 0 0 ∧ Below w.heap.size w w' := Any.slices_Clone_int Tryz.laysNm215 b off n c zs w hz hbig hc
open Go.RowKit Go.Lib in
/-- The same at nil: nil comes back; the world is as it was. (LAID: no walk: one application.) -/
theorem Tryz.slices_Clone_int_nil (n c : Nat) (w : World) :
    Calls Tryz.prog 77 #[.slice none n c] w fun e w' => e = .returned (.slice none 0 0) ∧ w' = w := Any.slices_Clone_int_nil Tryz.laysNm215 n c w
open Go.RowKit Go.Lib in
/-- The same at a slice of length 0 that is not nil, WHATEVER ITS ADDRESS (no cell is asked for): a slice that is not nil and owns nothing comes back. (LAID: no walk: one application.) -/
theorem Tryz.slices_Clone_int_zero (a : Addr) (c : Nat) (w : World) :
    Calls Tryz.prog 77 #[.slice (some a) 0 c] w fun e w' => ∃ v', e = .returned v' ∧ w'.ownsRow w.heap.size 3 1 v' 0 [] ∧ v' ≠ .slice none 0 0 ∧ Below w.heap.size w w' := Any.slices_Clone_int_zero Tryz.laysNm215 a c w
def Tryz.laysClP_ren : Go.Shelf.Ren := ⟨fun | 41 => 130 | n => n, fun | 22 => 159 | 23 => 228 | 4 => 4 | n => n, fun | n => n⟩
theorem Tryz.laysClP : Go.Proofs.SlLaysE0.n41 Tryz.prog Tryz.laysClP_ren := {
  mixed := by kernel_rfl
  f41 := ⟨Tryz.f130.name, by decide, Tryz.func130.trans (congrArg some (by kernel_rfl))⟩
  t4 := Tryz.underlying4
  a4 := Tryz.isAgg4
  z4 := Tryz.sizeOf4
  v4 := Tryz.zeroValue4
  t22 := Tryz.underlying159
  a22 := Tryz.isAgg159
  z22 := Tryz.sizeOf159
  v22 := Tryz.zeroValue159 }
def Tryz.laysDelP_ren : Go.Shelf.Ren := ⟨fun | 10 => 204 | 6 => 154 | n => n, fun | 22 => 159 | 23 => 228 | 25 => 268 | 3 => 3 | 4 => 4 | 0 => 0 | n => n, fun | n => n⟩
theorem Tryz.laysDelP : Go.Proofs.SlLaysH.n10 Tryz.prog Tryz.laysDelP_ren := {
  mixed := by kernel_rfl
  f6 := ⟨Tryz.f154.name, by decide, Tryz.func154.trans (congrArg some (by kernel_rfl))⟩
  f10 := ⟨Tryz.f204.name, by decide, Tryz.func204.trans (congrArg some (by kernel_rfl))⟩
  t0 := Tryz.underlying0
  a0 := Tryz.isAgg0
  z0 := Tryz.sizeOf0
  v0 := Tryz.zeroValue0
  t3 := Tryz.underlying3
  a3 := Tryz.isAgg3
  z3 := Tryz.sizeOf3
  v3 := Tryz.zeroValue3
  t4 := Tryz.underlying4
  a4 := Tryz.isAgg4
  z4 := Tryz.sizeOf4
  v4 := Tryz.zeroValue4
  t22 := Tryz.underlying159
  a22 := Tryz.isAgg159
  z22 := Tryz.sizeOf159
  v22 := Tryz.zeroValue159
  a23 := Tryz.isAgg228
  z23 := Tryz.sizeOf228
  t25 := Tryz.underlying268
  a25 := Tryz.isAgg268
  z25 := Tryz.sizeOf268
  v25 := Tryz.zeroValue268 }
end Go.Proofs
