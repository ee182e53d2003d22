/- The shelf's contracts of the library's functions, laid at this program's numbers (the text is the shelf's own laying in plain words, printed by its tools). Conditions: none. -/
import Derived.Shelf.Strings.SlTrimAscii
import Derived.Shelf.Strings.Trim
import Derived.Shelf.LaysM
import Derived.Test.YtlmmhnddlmgaiaaGreatDoorProg
namespace Go.Proofs
open Go.Shelf
def Tryz.lays160_ren : Go.Shelf.Ren := ⟨fun | 160 => 192 | 232 => 197 | 231 => 196 | 227 => 198 | 234 => 200 | 233 => 199 | 236 => 202 | 235 => 201 | 228 => 203 | 271 => 206 | 151 => 205 | 197 => 204 | 120 => 209 | 152 => 208 | 260 => 207 | 137 => 210 | 119 => 211 | 224 => 212 | 225 => 213 | 217 => 214 | 266 => 215 | n => n, fun | 9 => 9 | 4 => 4 | 3 => 3 | 5 => 5 | 117 => 177 | 116 => 176 | 0 => 0 | 124 => 180 | 21 => 21 | 105 => 182 | 46 => 130 | 119 => 186 | 139 => 189 | 138 => 188 | n => n, fun | 3 => 0 | 4 => 1 | n => n⟩
theorem Tryz.lays160 : Go.Proofs.Lays.n160 Tryz.prog Tryz.lays160_ren := {
  mixed := by kernel_rfl
  f119 := Tryz.func211.trans (congrArg some (by kernel_rfl))
  f120 := Tryz.func209.trans (congrArg some (by kernel_rfl))
  f137 := Tryz.func210.trans (congrArg some (by kernel_rfl))
  f151 := Tryz.func205.trans (congrArg some (by kernel_rfl))
  f152 := Tryz.func208.trans (congrArg some (by kernel_rfl))
  f160 := Tryz.func192.trans (congrArg some (by kernel_rfl))
  f197 := Tryz.func204.trans (congrArg some (by kernel_rfl))
  f217 := Tryz.func214.trans (congrArg some (by kernel_rfl))
  f224 := Tryz.func212.trans (congrArg some (by kernel_rfl))
  f225 := Tryz.func213.trans (congrArg some (by kernel_rfl))
  f227 := Tryz.func198.trans (congrArg some (by kernel_rfl))
  f228 := Tryz.func203.trans (congrArg some (by kernel_rfl))
  f231 := Tryz.func196.trans (congrArg some (by kernel_rfl))
  f232 := Tryz.func197.trans (congrArg some (by kernel_rfl))
  f233 := Tryz.func199.trans (congrArg some (by kernel_rfl))
  f234 := Tryz.func200.trans (congrArg some (by kernel_rfl))
  f235 := Tryz.func201.trans (congrArg some (by kernel_rfl))
  f236 := Tryz.func202.trans (congrArg some (by kernel_rfl))
  f260 := Tryz.func207.trans (congrArg some (by kernel_rfl))
  f266 := Tryz.func215.trans (congrArg some (by kernel_rfl))
  f271 := Tryz.func206.trans (congrArg some (by kernel_rfl))
  t0 := Tryz.underlying0
  a0 := Tryz.isAgg0
  z0 := Tryz.sizeOf0
  v0 := Tryz.zeroValue0
  t3 := Tryz.underlying3
  a3 := Tryz.isAgg3
  z3 := Tryz.sizeOf3
  v3 := Tryz.zeroValue3
  t4 := Tryz.underlying4
  a4 := Tryz.isAgg4
  z4 := Tryz.sizeOf4
  v4 := Tryz.zeroValue4
  t5 := Tryz.underlying5
  a5 := Tryz.isAgg5
  z5 := Tryz.sizeOf5
  v5 := Tryz.zeroValue5
  t9 := Tryz.underlying9
  a9 := Tryz.isAgg9
  z9 := Tryz.sizeOf9
  v9 := Tryz.zeroValue9
  t21 := Tryz.underlying21
  a21 := Tryz.isAgg21
  z21 := Tryz.sizeOf21
  v21 := Tryz.zeroValue21
  t46 := Tryz.underlying130
  a46 := Tryz.isAgg130
  z46 := Tryz.sizeOf130
  v46 := Tryz.zeroValue130
  t105 := Tryz.underlying182
  a105 := Tryz.isAgg182
  z105 := Tryz.sizeOf182
  v105 := Tryz.zeroValue182
  t116 := Tryz.underlying176
  a116 := Tryz.isAgg176
  z116 := Tryz.sizeOf176
  t117 := Tryz.underlying177
  a117 := Tryz.isAgg177
  z117 := Tryz.sizeOf177
  v117 := Tryz.zeroValue177
  t119 := Tryz.underlying186
  a119 := Tryz.isAgg186
  z119 := Tryz.sizeOf186
  t124 := Tryz.underlying180
  a124 := Tryz.isAgg180
  z124 := Tryz.sizeOf180
  v124 := Tryz.zeroValue180
  t138 := Tryz.underlying188
  a138 := Tryz.isAgg188
  z138 := Tryz.sizeOf188
  v138 := Tryz.zeroValue188
  t139 := Tryz.underlying189
  a139 := Tryz.isAgg189
  z139 := Tryz.sizeOf189
  v139 := Tryz.zeroValue189
  g3 := by kernel_rfl
  g4 := by kernel_rfl }
open Go.RowKit in
/-- strings.Trim: "Trim returns a slice of the string s with all leading and trailing Unicode code points contained in cutset removed.": AT A cutset OF ONE ASCII BYTE. THE WORLD BEHIND IT: as it was, or (where s is not empty) with ONE DRAW MORE off the tape: the statement 'return trimLeftByte(trimRightByte(s, c), c)' draws its order of evaluation. (LAID: no walk: one application.) -/
theorem Tryz.strings_Trim_one (s : ByteArray) (c : UInt8) (hc : c.toNat < 128) (w : World) (hs : s.size ≤ 9223372036854775807) :
    Calls Tryz.prog 192 #[.string s, .string ⟨#[c]⟩] w fun e w' => e = .returned (.string ⟨(Lib.trimB s.data.toList c).toArray⟩) ∧ (w' = w ∨ w' = w.drew) := Any.strings_Trim_one Tryz.lays160 s c hc w hs
end Go.Proofs
