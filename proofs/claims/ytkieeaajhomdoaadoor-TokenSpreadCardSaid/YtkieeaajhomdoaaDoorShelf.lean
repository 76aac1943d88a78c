/-
  DERIVED: THE SHELF's CONTRACTS AT THIS DUMP, IN PLAIN WORDS (tools/lay-plain.mjs out of 'TrydShelf.lean', which tools/lay-shelf.mjs wrote): THE SAME DECLARATIONS UNDER THE SAME NAMES: 'import', 'namespace', 'open', 'def', 'theorem' AND NOTHING ELSE: no command of the shelf's: FOR A HAND-IN. Each laying: the table of numbers ('.._ren') and one theorem, a field a fact of the dump's own or the kernel's comparison; each contract: ONE APPLICATION.
-/
import Derived.Shelf.Strings.Builder1
import Derived.Shelf.Strings.Builder2
import Derived.Shelf.Strings.OnBuilder
import Derived.Shelf.Small.Utf8
import Derived.Shelf.Small.Wraps
import Derived.Shelf.Strconv.Itoa0
import Derived.Shelf.Strconv.Itoa1
import Derived.Shelf.LaysM
import Derived.Shelf.Strconv.Itoa2
import Derived.Shelf.Strconv.Itoa3
import Derived.Shelf.Strconv.Clone
import Derived.Shelf.Strconv.SyntaxError
import Derived.Shelf.LaysC
import Derived.Shelf.Strconv.ToError
import Derived.Shelf.Strconv.Lower
import Derived.Shelf.Strconv.RangeError
import Derived.Shelf.Strconv.ToErrorRange
import Derived.Shelf.Strings.Search1
import Derived.Shelf.Strings.Search2
import Derived.Shelf.Strings.Search3
import Derived.Shelf.Strings.Cut
import Derived.Shelf.Strings.Count
import Derived.Shelf.Strings.Shaped
import Derived.Shelf.Strings.Prefix
import Derived.Shelf.Strings.Split
import Derived.Shelf.Strings.Fields
import Derived.Shelf.Strings.SplitShaped
import Derived.Shelf.Unicode.Latin
import Derived.Shelf.Unicode.DecodeSlow
import Derived.Shelf.Unicode.Is16White
import Derived.Shelf.Unicode.IsSpaceAny
import Derived.Shelf.Unicode.CaseLookup
import Derived.Shelf.Unicode.CaseConvert
import Derived.Shelf.Unicode.CaseTo
import Derived.Shelf.Unicode.CaseLaid
import Derived.Shelf.Unicode.Is16Any
import Derived.Shelf.Unicode.Is32Any
import Derived.Shelf.Unicode.ExclAny
import Derived.Test.YtkieeaajhomdoaaDoorProg
namespace Go.Proofs
open Go.Shelf
def Tryd.laysC245_ren : Go.Shelf.Ren := ⟨fun | 245 => 95 | 279 => 117 | 280 => 118 | 281 => 119 | 282 => 120 | 316 => 138 | 171 => 56 | 205 => 139 | 243 => 78 | 246 => 100 | 283 => 123 | 284 => 124 | 285 => 125 | 286 => 126 | 129 => 141 | 317 => 140 | 318 => 142 | 319 => 143 | 320 => 144 | 337 => 155 | 338 => 156 | n => n, fun | 9 => 9 | 3 => 3 | 75 => 102 | 167 => 162 | 4 => 4 | 168 => 164 | 210 => 183 | 37 => 31 | 0 => 0 | 127 => 134 | 145 => 200 | 143 => 198 | 2 => 2 | 171 => 167 | 53 => 112 | 5 => 5 | 173 => 170 | 212 => 187 | 51 => 36 | 20 => 20 | 213 => 188 | 46 => 117 | 232 => 210 | 233 => 211 | 80 => 105 | n => n, fun | 15 => 3 | 16 => 4 | 17 => 5 | 18 => 9 | 19 => 10 | n => n⟩
theorem Tryd.laysC245 : Go.Proofs.LaysC.n245 Tryd.prog Tryd.laysC245_ren := {
  mixed := by kernel_rfl
  f129 := Tryd.func141.trans (congrArg some (by kernel_rfl))
  f171 := Tryd.func56.trans (congrArg some (by kernel_rfl))
  f205 := Tryd.func139.trans (congrArg some (by kernel_rfl))
  f243 := Tryd.func78.trans (congrArg some (by kernel_rfl))
  f245 := Tryd.func95.trans (congrArg some (by kernel_rfl))
  f246 := Tryd.func100.trans (congrArg some (by kernel_rfl))
  f279 := Tryd.func117.trans (congrArg some (by kernel_rfl))
  f280 := Tryd.func118.trans (congrArg some (by kernel_rfl))
  f281 := Tryd.func119.trans (congrArg some (by kernel_rfl))
  f282 := Tryd.func120.trans (congrArg some (by kernel_rfl))
  f283 := Tryd.func123.trans (congrArg some (by kernel_rfl))
  f284 := Tryd.func124.trans (congrArg some (by kernel_rfl))
  f285 := Tryd.func125.trans (congrArg some (by kernel_rfl))
  f286 := Tryd.func126.trans (congrArg some (by kernel_rfl))
  f316 := Tryd.func138.trans (congrArg some (by kernel_rfl))
  f317 := Tryd.func140.trans (congrArg some (by kernel_rfl))
  f318 := Tryd.func142.trans (congrArg some (by kernel_rfl))
  f319 := Tryd.func143.trans (congrArg some (by kernel_rfl))
  f320 := Tryd.func144.trans (congrArg some (by kernel_rfl))
  f337 := Tryd.func155.trans (congrArg some (by kernel_rfl))
  f338 := Tryd.func156.trans (congrArg some (by kernel_rfl))
  t0 := Tryd.underlying0
  a0 := Tryd.isAgg0
  z0 := Tryd.sizeOf0
  v0 := Tryd.zeroValue0
  t2 := Tryd.underlying2
  a2 := Tryd.isAgg2
  z2 := Tryd.sizeOf2
  v2 := Tryd.zeroValue2
  t3 := Tryd.underlying3
  a3 := Tryd.isAgg3
  z3 := Tryd.sizeOf3
  v3 := Tryd.zeroValue3
  t4 := Tryd.underlying4
  a4 := Tryd.isAgg4
  z4 := Tryd.sizeOf4
  v4 := Tryd.zeroValue4
  t5 := Tryd.underlying5
  a5 := Tryd.isAgg5
  z5 := Tryd.sizeOf5
  v5 := Tryd.zeroValue5
  t9 := Tryd.underlying9
  a9 := Tryd.isAgg9
  z9 := Tryd.sizeOf9
  v9 := Tryd.zeroValue9
  t20 := Tryd.underlying20
  a20 := Tryd.isAgg20
  z20 := Tryd.sizeOf20
  v20 := Tryd.zeroValue20
  t37 := Tryd.underlying31
  a37 := Tryd.isAgg31
  z37 := Tryd.sizeOf31
  v37 := Tryd.zeroValue31
  t46 := Tryd.underlying117
  a46 := Tryd.isAgg117
  z46 := Tryd.sizeOf117
  v46 := Tryd.zeroValue117
  t51 := Tryd.underlying36
  a51 := Tryd.isAgg36
  z51 := Tryd.sizeOf36
  v51 := Tryd.zeroValue36
  t53 := Tryd.underlying112
  a53 := Tryd.isAgg112
  z53 := Tryd.sizeOf112
  v53 := Tryd.zeroValue112
  t75 := Tryd.underlying102
  a75 := Tryd.isAgg102
  z75 := Tryd.sizeOf102
  v75 := Tryd.zeroValue102
  t127 := Tryd.underlying134
  a127 := Tryd.isAgg134
  z127 := Tryd.sizeOf134
  v127 := Tryd.zeroValue134
  t143 := Tryd.underlying198
  a143 := Tryd.isAgg198
  z143 := Tryd.sizeOf198
  v143 := Tryd.zeroValue198
  t145 := Tryd.underlying200
  a145 := Tryd.isAgg200
  z145 := Tryd.sizeOf200
  v145 := Tryd.zeroValue200
  t167 := Tryd.underlying162
  a167 := Tryd.isAgg162
  z167 := Tryd.sizeOf162
  v167 := Tryd.zeroValue162
  t168 := Tryd.underlying164
  a168 := Tryd.isAgg164
  z168 := Tryd.sizeOf164
  v168 := Tryd.zeroValue164
  t171 := Tryd.underlying167
  a171 := Tryd.isAgg167
  z171 := Tryd.sizeOf167
  v171 := Tryd.zeroValue167
  t173 := Tryd.underlying170
  a173 := Tryd.isAgg170
  z173 := Tryd.sizeOf170
  v173 := Tryd.zeroValue170
  t210 := Tryd.underlying183
  a210 := Tryd.isAgg183
  z210 := Tryd.sizeOf183
  v210 := Tryd.zeroValue183
  t212 := Tryd.underlying187
  a212 := Tryd.isAgg187
  z212 := Tryd.sizeOf187
  v212 := Tryd.zeroValue187
  t213 := Tryd.underlying188
  a213 := Tryd.isAgg188
  z213 := Tryd.sizeOf188
  t232 := Tryd.underlying210
  a232 := Tryd.isAgg210
  z232 := Tryd.sizeOf210
  v232 := Tryd.zeroValue210
  t233 := Tryd.underlying211
  a233 := Tryd.isAgg211
  z233 := Tryd.sizeOf211
  v233 := Tryd.zeroValue211
  g15 := by kernel_rfl
  g16 := by kernel_rfl
  g17 := by kernel_rfl
  g18 := by kernel_rfl
  g19 := by kernel_rfl
  t80 := Tryd.underlying105
  a80 := Tryd.isAgg105
  z80 := Tryd.sizeOf105
  v80 := Tryd.zeroValue105
  i0 := by kernel_rfl
  i2 := by kernel_rfl
  i3 := by kernel_rfl
  i4 := by kernel_rfl
  i5 := by kernel_rfl
  i9 := by kernel_rfl
  i20 := by kernel_rfl
  i37 := by kernel_rfl
  i46 := by kernel_rfl
  i51 := by kernel_rfl
  i53 := by kernel_rfl
  i75 := by kernel_rfl
  i80 := by kernel_rfl
  i127 := by kernel_rfl
  i143 := by kernel_rfl
  i145 := by kernel_rfl
  i167 := by kernel_rfl
  i168 := by kernel_rfl
  i171 := by kernel_rfl
  i173 := by kernel_rfl
  i210 := by kernel_rfl
  i212 := by kernel_rfl
  i232 := by kernel_rfl
  i233 := by kernel_rfl
  m15 := by kernel_rfl
  m16 := by kernel_rfl
  m17 := by kernel_rfl
  m18 := by kernel_rfl
  m19 := by kernel_rfl
  c0 := by kernel_rfl
  c2 := by kernel_rfl
  c3 := by kernel_rfl
  c4 := by kernel_rfl
  c5 := by kernel_rfl
  c9 := by kernel_rfl
  c20 := by kernel_rfl
  c37 := by kernel_rfl
  c46 := by kernel_rfl
  c51 := by kernel_rfl
  c53 := by kernel_rfl
  c75 := by kernel_rfl
  c80 := by kernel_rfl
  c127 := by kernel_rfl
  c143 := by kernel_rfl
  c145 := by kernel_rfl
  c167 := by kernel_rfl
  c168 := by kernel_rfl
  c171 := by kernel_rfl
  c173 := by kernel_rfl
  c210 := by kernel_rfl
  c212 := by kernel_rfl
  c213 := by kernel_rfl
  c232 := by kernel_rfl
  c233 := by kernel_rfl }
def Tryd.lays321_ren : Go.Shelf.Ren := ⟨fun | 321 => 115 | n => n, fun | 5 => 5 | n => n, fun | n => n⟩
theorem Tryd.lays321 : Go.Proofs.Lays.n321 Tryd.prog Tryd.lays321_ren := {
  mixed := by kernel_rfl
  f321 := Tryd.func115.trans (congrArg some (by kernel_rfl))
  t5 := Tryd.underlying5
  a5 := Tryd.isAgg5
  z5 := Tryd.sizeOf5
  v5 := Tryd.zeroValue5 }
open Go.RowKit in
theorem Tryd.internal_strconv_lower (c : Int) (w : World) :
    Calls Tryd.prog 115 #[.int .u8 c] w fun e w' => e = .returned (.int .u8 (bits .or .u8 c 32)) ∧ w' = w := Any.internal_strconv_lower Tryd.lays321 c w
open Go.RowKit in
theorem Tryd.strconv_toError_range (fn s : ByteArray) (base bits : Int) (ev : Value) (w : World) (hlim : s.size ≤ 281474976710656) (hv : w.cell? ⟨4, 0, none⟩ = some ev) (hev : ev = .nilIface ∨ ∃ te pe, ev = .iface te pe) :
    Calls Tryd.prog 95 #[.string fn, .string s, .int .i64 base, .int .i64 bits, .iface 162 (.int .i64 1)] w fun e w' => ∃ N, e = .returned (.iface 164 (.pointer (some ⟨N, 0, none⟩))) ∧ w.heap.size ≤ N ∧ w'.heap[N]? = some (.cells #[.string fn, .string s, ev] 183 (0, 0)) ∧ Below w.heap.size w w' := Any.strconv_toError_range Tryd.laysC245 fn s base bits ev w hlim hv hev
def Tryd.lays99_ren : Go.Shelf.Ren := ⟨fun | 99 => 21 | 206 => 40 | n => n, fun | 9 => 9 | 4 => 4 | 3 => 3 | n => n, fun | n => n⟩
theorem Tryd.lays99 : Go.Proofs.Lays.n99 Tryd.prog Tryd.lays99_ren := {
  mixed := by kernel_rfl
  f99 := Tryd.func21.trans (congrArg some (by kernel_rfl))
  f206 := Tryd.func40.trans (congrArg some (by kernel_rfl))
  t3 := Tryd.underlying3
  a3 := Tryd.isAgg3
  z3 := Tryd.sizeOf3
  v3 := Tryd.zeroValue3
  t4 := Tryd.underlying4
  a4 := Tryd.isAgg4
  z4 := Tryd.sizeOf4
  v4 := Tryd.zeroValue4
  t9 := Tryd.underlying9
  a9 := Tryd.isAgg9
  z9 := Tryd.sizeOf9
  v9 := Tryd.zeroValue9 }
open Go.RowKit Go.Lib in
theorem Tryd.strings_HasPrefix (s p : ByteArray) (w : World) :
    Calls Tryd.prog 21 #[.string s, .string p] w fun e w' => e = .returned (.bool (Lib.hasPrefix s.data.toList p.data.toList)) ∧ w' = w := Any.strings_HasPrefix Tryd.lays99 s p w
def Tryd.lays157_ren : Go.Shelf.Ren := ⟨fun | 157 => 39 | 229 => 69 | 199 => 70 | 261 => 93 | 311 => 113 | 312 => 114 | n => n, fun | 9 => 9 | 31 => 60 | 3 => 3 | 5 => 5 | 4 => 4 | 119 => 109 | 0 => 0 | 40 => 111 | 152 => 135 | 21 => 21 | 154 => 137 | 51 => 36 | 141 => 139 | 196 => 155 | 193 => 152 | 198 => 157 | 49 => 118 | 194 => 153 | 201 => 160 | 226 => 180 | 46 => 117 | 227 => 181 | n => n, fun | 0 => 0 | 6 => 1 | n => n⟩
theorem Tryd.lays157 : Go.Proofs.Lays.n157 Tryd.prog Tryd.lays157_ren := {
  mixed := by kernel_rfl
  f157 := Tryd.func39.trans (congrArg some (by kernel_rfl))
  f199 := Tryd.func70.trans (congrArg some (by kernel_rfl))
  f229 := Tryd.func69.trans (congrArg some (by kernel_rfl))
  f261 := Tryd.func93.trans (congrArg some (by kernel_rfl))
  f311 := Tryd.func113.trans (congrArg some (by kernel_rfl))
  f312 := Tryd.func114.trans (congrArg some (by kernel_rfl))
  t0 := Tryd.underlying0
  a0 := Tryd.isAgg0
  z0 := Tryd.sizeOf0
  v0 := Tryd.zeroValue0
  t3 := Tryd.underlying3
  a3 := Tryd.isAgg3
  z3 := Tryd.sizeOf3
  v3 := Tryd.zeroValue3
  t4 := Tryd.underlying4
  a4 := Tryd.isAgg4
  z4 := Tryd.sizeOf4
  v4 := Tryd.zeroValue4
  t5 := Tryd.underlying5
  a5 := Tryd.isAgg5
  z5 := Tryd.sizeOf5
  v5 := Tryd.zeroValue5
  t9 := Tryd.underlying9
  a9 := Tryd.isAgg9
  z9 := Tryd.sizeOf9
  v9 := Tryd.zeroValue9
  t21 := Tryd.underlying21
  a21 := Tryd.isAgg21
  z21 := Tryd.sizeOf21
  v21 := Tryd.zeroValue21
  t31 := Tryd.underlying60
  a31 := Tryd.isAgg60
  z31 := Tryd.sizeOf60
  v31 := Tryd.zeroValue60
  t40 := Tryd.underlying111
  a40 := Tryd.isAgg111
  z40 := Tryd.sizeOf111
  v40 := Tryd.zeroValue111
  t46 := Tryd.underlying117
  a46 := Tryd.isAgg117
  z46 := Tryd.sizeOf117
  v46 := Tryd.zeroValue117
  t49 := Tryd.underlying118
  a49 := Tryd.isAgg118
  z49 := Tryd.sizeOf118
  v49 := Tryd.zeroValue118
  t51 := Tryd.underlying36
  a51 := Tryd.isAgg36
  z51 := Tryd.sizeOf36
  v51 := Tryd.zeroValue36
  t119 := Tryd.underlying109
  a119 := Tryd.isAgg109
  z119 := Tryd.sizeOf109
  t141 := Tryd.underlying139
  a141 := Tryd.isAgg139
  z141 := Tryd.sizeOf139
  v141 := Tryd.zeroValue139
  t152 := Tryd.underlying135
  a152 := Tryd.isAgg135
  z152 := Tryd.sizeOf135
  v152 := Tryd.zeroValue135
  t154 := Tryd.underlying137
  a154 := Tryd.isAgg137
  z154 := Tryd.sizeOf137
  v154 := Tryd.zeroValue137
  t193 := Tryd.underlying152
  a193 := Tryd.isAgg152
  z193 := Tryd.sizeOf152
  v193 := Tryd.zeroValue152
  t194 := Tryd.underlying153
  a194 := Tryd.isAgg153
  z194 := Tryd.sizeOf153
  v194 := Tryd.zeroValue153
  t196 := Tryd.underlying155
  a196 := Tryd.isAgg155
  z196 := Tryd.sizeOf155
  v196 := Tryd.zeroValue155
  t198 := Tryd.underlying157
  a198 := Tryd.isAgg157
  z198 := Tryd.sizeOf157
  v198 := Tryd.zeroValue157
  t201 := Tryd.underlying160
  a201 := Tryd.isAgg160
  z201 := Tryd.sizeOf160
  v201 := Tryd.zeroValue160
  t226 := Tryd.underlying180
  a226 := Tryd.isAgg180
  z226 := Tryd.sizeOf180
  v226 := Tryd.zeroValue180
  t227 := Tryd.underlying181
  a227 := Tryd.isAgg181
  z227 := Tryd.sizeOf181
  v227 := Tryd.zeroValue181
  g0 := by kernel_rfl
  g6 := by kernel_rfl }
open Go.RowKit Go.Lib in
theorem Tryd.strings_Fields (s : ByteArray) (w : World) (hs : s.size < 4294967281) (hascii : ∀ (j : Nat) b, s.data.toList[j]? = some b → b.toNat < 128) (htab : Lib.TabIs Tryd.prog w "strings.asciiSpace" .u8 Lib.asciiSpaceTab) :
    Calls Tryd.prog 39 #[.string s] w fun e w' =>
      e = .returned (.slice (some ⟨w.heap.size, 0, none⟩) (Lib.fields s.data.toList).length (Lib.fields s.data.toList).length) ∧ w' = w.alloc (.cells ((Lib.fields s.data.toList).map fun l => Value.string ⟨l.toArray⟩).toArray 9) := Any.strings_Fields Tryd.lays157 (by kernel_rfl) (by kernel_rfl) s w hs hascii htab
end Go.Proofs
