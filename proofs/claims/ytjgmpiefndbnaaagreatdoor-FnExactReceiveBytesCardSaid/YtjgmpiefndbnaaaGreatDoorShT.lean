/- The shelf's contracts of the library's functions, laid at this program's numbers (the text is the shelf's own laying in plain words, printed by its tools). Conditions: none. -/
import Derived.Shelf.Strings.SlTrimAscii
import Derived.Shelf.Strings.Trim
import Derived.Shelf.LaysM
import Derived.Test.YtjgmpiefndbnaaaGreatDoorProg
namespace Go.Proofs
open Go.Shelf
def Tryz.lays160_ren : Go.Shelf.Ren := ⟨fun | 160 => 302 | 232 => 307 | 231 => 306 | 227 => 308 | 234 => 310 | 233 => 309 | 236 => 312 | 235 => 311 | 228 => 313 | 271 => 316 | 151 => 315 | 197 => 314 | 120 => 319 | 152 => 318 | 260 => 317 | 137 => 320 | 119 => 321 | 224 => 322 | 225 => 323 | 217 => 324 | 266 => 325 | n => n, fun | 9 => 9 | 4 => 4 | 3 => 3 | 5 => 5 | 117 => 260 | 116 => 259 | 0 => 0 | 124 => 263 | 21 => 21 | 105 => 265 | 46 => 149 | 119 => 269 | 139 => 272 | 138 => 271 | n => n, fun | 3 => 0 | 4 => 1 | n => n⟩
theorem Tryz.lays160 : Go.Proofs.Lays.n160 Tryz.prog Tryz.lays160_ren := {
  mixed := by kernel_rfl
  f119 := Tryz.func321.trans (congrArg some (by kernel_rfl))
  f120 := Tryz.func319.trans (congrArg some (by kernel_rfl))
  f137 := Tryz.func320.trans (congrArg some (by kernel_rfl))
  f151 := Tryz.func315.trans (congrArg some (by kernel_rfl))
  f152 := Tryz.func318.trans (congrArg some (by kernel_rfl))
  f160 := Tryz.func302.trans (congrArg some (by kernel_rfl))
  f197 := Tryz.func314.trans (congrArg some (by kernel_rfl))
  f217 := Tryz.func324.trans (congrArg some (by kernel_rfl))
  f224 := Tryz.func322.trans (congrArg some (by kernel_rfl))
  f225 := Tryz.func323.trans (congrArg some (by kernel_rfl))
  f227 := Tryz.func308.trans (congrArg some (by kernel_rfl))
  f228 := Tryz.func313.trans (congrArg some (by kernel_rfl))
  f231 := Tryz.func306.trans (congrArg some (by kernel_rfl))
  f232 := Tryz.func307.trans (congrArg some (by kernel_rfl))
  f233 := Tryz.func309.trans (congrArg some (by kernel_rfl))
  f234 := Tryz.func310.trans (congrArg some (by kernel_rfl))
  f235 := Tryz.func311.trans (congrArg some (by kernel_rfl))
  f236 := Tryz.func312.trans (congrArg some (by kernel_rfl))
  f260 := Tryz.func317.trans (congrArg some (by kernel_rfl))
  f266 := Tryz.func325.trans (congrArg some (by kernel_rfl))
  f271 := Tryz.func316.trans (congrArg some (by kernel_rfl))
  t0 := Tryz.underlying0
  a0 := Tryz.isAgg0
  z0 := Tryz.sizeOf0
  v0 := Tryz.zeroValue0
  t3 := Tryz.underlying3
  a3 := Tryz.isAgg3
  z3 := Tryz.sizeOf3
  v3 := Tryz.zeroValue3
  t4 := Tryz.underlying4
  a4 := Tryz.isAgg4
  z4 := Tryz.sizeOf4
  v4 := Tryz.zeroValue4
  t5 := Tryz.underlying5
  a5 := Tryz.isAgg5
  z5 := Tryz.sizeOf5
  v5 := Tryz.zeroValue5
  t9 := Tryz.underlying9
  a9 := Tryz.isAgg9
  z9 := Tryz.sizeOf9
  v9 := Tryz.zeroValue9
  t21 := Tryz.underlying21
  a21 := Tryz.isAgg21
  z21 := Tryz.sizeOf21
  v21 := Tryz.zeroValue21
  t46 := Tryz.underlying149
  a46 := Tryz.isAgg149
  z46 := Tryz.sizeOf149
  v46 := Tryz.zeroValue149
  t105 := Tryz.underlying265
  a105 := Tryz.isAgg265
  z105 := Tryz.sizeOf265
  v105 := Tryz.zeroValue265
  t116 := Tryz.underlying259
  a116 := Tryz.isAgg259
  z116 := Tryz.sizeOf259
  t117 := Tryz.underlying260
  a117 := Tryz.isAgg260
  z117 := Tryz.sizeOf260
  v117 := Tryz.zeroValue260
  t119 := Tryz.underlying269
  a119 := Tryz.isAgg269
  z119 := Tryz.sizeOf269
  t124 := Tryz.underlying263
  a124 := Tryz.isAgg263
  z124 := Tryz.sizeOf263
  v124 := Tryz.zeroValue263
  t138 := Tryz.underlying271
  a138 := Tryz.isAgg271
  z138 := Tryz.sizeOf271
  v138 := Tryz.zeroValue271
  t139 := Tryz.underlying272
  a139 := Tryz.isAgg272
  z139 := Tryz.sizeOf272
  v139 := Tryz.zeroValue272
  g3 := by kernel_rfl
  g4 := by kernel_rfl }
open Go.RowKit in
/-- strings.Trim: "Trim returns a slice of the string s with all leading and trailing Unicode code points contained in cutset removed.": AT A cutset OF ONE ASCII BYTE. THE WORLD BEHIND IT: as it was, or (where s is not empty) with ONE DRAW MORE off the tape: the statement 'return trimLeftByte(trimRightByte(s, c), c)' draws its order of evaluation. (LAID: no walk: one application.) -/
theorem Tryz.strings_Trim_one (s : ByteArray) (c : UInt8) (hc : c.toNat < 128) (w : World) (hs : s.size ≤ 9223372036854775807) :
    Calls Tryz.prog 302 #[.string s, .string ⟨#[c]⟩] w fun e w' => e = .returned (.string ⟨(Lib.trimB s.data.toList c).toArray⟩) ∧ (w' = w ∨ w' = w.drew) := Any.strings_Trim_one Tryz.lays160 s c hc w hs
end Go.Proofs
