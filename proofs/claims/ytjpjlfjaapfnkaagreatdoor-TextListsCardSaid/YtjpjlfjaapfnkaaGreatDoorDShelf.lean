/-
  DERIVED: THE SHELF's CONTRACTS AT THIS DUMP, IN PLAIN WORDS (tools/lay-plain.mjs out of 'YtjpjlfjaapfnkaaGreatDoorShelf.lean', which tools/lay-shelf.mjs wrote): THE SAME DECLARATIONS UNDER THE SAME NAMES: 'import', 'namespace', 'open', 'def', 'theorem' AND NOTHING ELSE: no command of the shelf's: FOR A HAND-IN. Each laying: the table of numbers ('.._ren') and one theorem, a field a fact of the dump's own or the kernel's comparison; each contract: ONE APPLICATION.
-/
import Derived.Shelf.Strings.Builder1
import Derived.Shelf.Strings.Builder2
import Derived.Shelf.Strings.OnBuilder
import Derived.Shelf.Strconv.Atoi
import Derived.Shelf.Strconv.Itoa0
import Derived.Shelf.Strconv.Itoa1
import Derived.Shelf.LaysM
import Derived.Shelf.Strconv.Itoa2
import Derived.Shelf.Strconv.Itoa3
import Derived.Shelf.Strconv.AtoiErrFast
import Derived.Shelf.Strconv.ParseIntEmpty
import Derived.Shelf.Strconv.AtoiFail
import Derived.Shelf.Strconv.Clone
import Derived.Shelf.Strconv.SyntaxError
import Derived.Shelf.LaysC
import Derived.Shelf.Strconv.ToError
import Derived.Shelf.Strconv.AtoiErr
import Derived.Shelf.Strconv.ErrVar
import Derived.Shelf.Strconv.Lower
import Derived.Shelf.Strconv.ParseUint10
import Derived.Shelf.Strconv.ParseUint10Empty
import Derived.Shelf.Strconv.ParseUint10Any
import Derived.Shelf.Strconv.ParseInt10
import Derived.Shelf.Strconv.AtoiLong
import Derived.Shelf.Strconv.AtoiInnerAll
import Derived.Shelf.Strconv.RangeError
import Derived.Shelf.Strconv.ToErrorRange
import Derived.Shelf.Strconv.AtoiAll
import Derived.Shelf.Strconv.ErrVarAll
import Derived.Shelf.Strings.Search1
import Derived.Shelf.Strings.Search2
import Derived.Shelf.Strings.Search3
import Derived.Shelf.Strings.Count
import Derived.Shelf.Strings.Shaped
import Derived.Shelf.Strings.Split
import Derived.Shelf.Strings.SplitShaped
import Derived.Shelf.Unicode.DecodeSlow
import Derived.Shelf.Slices.Turned
import Derived.Test.YtjpjlfjaapfnkaaGreatDoorProg
set_option linter.unusedVariables false
set_option linter.unusedSimpArgs false
namespace Go.Proofs
open Go.Shelf
def Tryz.lays156_ren : Go.Shelf.Ren := ⟨fun | 156 => 68 | 165 => 89 | 166 => 90 | 169 => 91 | 240 => 101 | 241 => 102 | 276 => 116 | 277 => 117 | n => n, fun | 31 => 71 | 9 => 9 | 3 => 3 | 4 => 4 | 0 => 0 | 20 => 20 | 72 => 142 | 76 => 112 | 70 => 140 | 37 => 57 | 75 => 28 | 127 => 168 | 164 => 130 | 5 => 5 | 80 => 111 | n => n, fun | n => n⟩
theorem Tryz.lays156 : Go.Proofs.Lays.n156 Tryz.prog Tryz.lays156_ren := {
 mixed := by kernel_rfl
 f156 := Tryz.func68.trans (congrArg some (by kernel_rfl))
 f165 := Tryz.func89.trans (congrArg some (by kernel_rfl))
 f166 := Tryz.func90.trans (congrArg some (by kernel_rfl))
 f169 := Tryz.func91.trans (congrArg some (by kernel_rfl))
 f240 := Tryz.func101.trans (congrArg some (by kernel_rfl))
 f241 := Tryz.func102.trans (congrArg some (by kernel_rfl))
 f276 := Tryz.func116.trans (congrArg some (by kernel_rfl))
 f277 := Tryz.func117.trans (congrArg some (by kernel_rfl))
 t0 := Tryz.underlying0
 a0 := Tryz.isAgg0
 z0 := Tryz.sizeOf0
 v0 := Tryz.zeroValue0
 t3 := Tryz.underlying3
 a3 := Tryz.isAgg3
 z3 := Tryz.sizeOf3
 v3 := Tryz.zeroValue3
 t4 := Tryz.underlying4
 a4 := Tryz.isAgg4
 z4 := Tryz.sizeOf4
 v4 := Tryz.zeroValue4
 t9 := Tryz.underlying9
 a9 := Tryz.isAgg9
 z9 := Tryz.sizeOf9
 v9 := Tryz.zeroValue9
 t20 := Tryz.underlying20
 a20 := Tryz.isAgg20
 z20 := Tryz.sizeOf20
 v20 := Tryz.zeroValue20
 t31 := Tryz.underlying71
 a31 := Tryz.isAgg71
 z31 := Tryz.sizeOf71
 v31 := Tryz.zeroValue71
 t37 := Tryz.underlying57
 a37 := Tryz.isAgg57
 z37 := Tryz.sizeOf57
 v37 := Tryz.zeroValue57
 t70 := Tryz.underlying140
 a70 := Tryz.isAgg140
 z70 := Tryz.sizeOf140
 v70 := Tryz.zeroValue140
 t72 := Tryz.underlying142
 a72 := Tryz.isAgg142
 z72 := Tryz.sizeOf142
 v72 := Tryz.zeroValue142
 t75 := Tryz.underlying28
 a75 := Tryz.isAgg28
 z75 := Tryz.sizeOf28
 v75 := Tryz.zeroValue28
 t76 := Tryz.underlying112
 a76 := Tryz.isAgg112
 z76 := Tryz.sizeOf112
 v76 := Tryz.zeroValue112
 t127 := Tryz.underlying168
 a127 := Tryz.isAgg168
 z127 := Tryz.sizeOf168
 v127 := Tryz.zeroValue168
 t164 := Tryz.underlying130
 a164 := Tryz.isAgg130
 z164 := Tryz.sizeOf130
 v164 := Tryz.zeroValue130 }
theorem Tryz.Builder_Extra_156 : Builder.Extra Tryz.prog Tryz.lays156_ren := {
 sizeBuilder := by kernel_rfl
 liesBuilder := by kernel_rfl
 t5 := Tryz.underlying5
 a5 := Tryz.isAgg5
 z5 := Tryz.sizeOf5
 v5 := Tryz.zeroValue5
 infoByte := by kernel_rfl
 cellsByte := by kernel_rfl
 sizeByte := by kernel_rfl
 neB5 := by decide }
open Go.RowKit in
theorem Tryz.strings_Join (bk o c : Nat) (xs : List ByteArray) (sep : ByteArray) (w : World) (hcells : ∀ (j : Nat) x, xs[j]? = some x → w.cell? ⟨bk, o + j, none⟩ = some (.string x)) (hbk : bk < w.heap.size) (hN : xs.length ≤ 140737488355328) (hcap : xs.length ≤ c) (hlen : (Lib.join (xs.map (·.data.toList)) sep.data.toList).length ≤ 140737488355328) :
 Calls Tryz.prog 68 #[.slice (some ⟨bk, o, none⟩) xs.length c, .string sep] w fun e w' => e = .returned (.string ⟨(Lib.join (xs.map (·.data.toList)) sep.data.toList).toArray⟩) ∧ Below w.heap.size w w' := Any.strings_Join Tryz.lays156 Tryz.Builder_Extra_156 bk o c xs sep w hcells hbk hN hcap hlen
def Tryz.laysM171_ren : Go.Shelf.Ren := ⟨fun | 171 => 30 | 243 => 69 | 246 => 92 | 283 => 103 | 284 => 104 | 285 => 105 | 286 => 106 | 129 => 119 | 317 => 118 | 318 => 120 | 319 => 121 | 320 => 122 | 337 => 134 | 338 => 135 | n => n, fun | 3 => 3 | 9 => 9 | 2 => 2 | 4 => 4 | 171 => 169 | 0 => 0 | 53 => 170 | 37 => 57 | 5 => 5 | 173 => 173 | 212 => 195 | 51 => 196 | 20 => 20 | 213 => 197 | 46 => 199 | 232 => 225 | 233 => 226 | n => n, fun | 17 => 1 | 18 => 5 | 19 => 6 | n => n⟩
theorem Tryz.laysM171 : Go.Proofs.LaysM.n171 Tryz.prog Tryz.laysM171_ren := {
 mixed := by kernel_rfl
 f129 := Tryz.func119.trans (congrArg some (by kernel_rfl))
 f171 := Tryz.func30.trans (congrArg some (by kernel_rfl))
 f243 := Tryz.func69.trans (congrArg some (by kernel_rfl))
 f246 := Tryz.func92.trans (congrArg some (by kernel_rfl))
 f283 := Tryz.func103.trans (congrArg some (by kernel_rfl))
 f284 := Tryz.func104.trans (congrArg some (by kernel_rfl))
 f285 := Tryz.func105.trans (congrArg some (by kernel_rfl))
 f286 := Tryz.func106.trans (congrArg some (by kernel_rfl))
 f317 := Tryz.func118.trans (congrArg some (by kernel_rfl))
 f318 := Tryz.func120.trans (congrArg some (by kernel_rfl))
 f319 := Tryz.func121.trans (congrArg some (by kernel_rfl))
 f320 := Tryz.func122.trans (congrArg some (by kernel_rfl))
 f337 := Tryz.func134.trans (congrArg some (by kernel_rfl))
 f338 := Tryz.func135.trans (congrArg some (by kernel_rfl))
 t0 := Tryz.underlying0
 a0 := Tryz.isAgg0
 z0 := Tryz.sizeOf0
 v0 := Tryz.zeroValue0
 t2 := Tryz.underlying2
 a2 := Tryz.isAgg2
 z2 := Tryz.sizeOf2
 v2 := Tryz.zeroValue2
 t3 := Tryz.underlying3
 a3 := Tryz.isAgg3
 z3 := Tryz.sizeOf3
 v3 := Tryz.zeroValue3
 t4 := Tryz.underlying4
 a4 := Tryz.isAgg4
 z4 := Tryz.sizeOf4
 v4 := Tryz.zeroValue4
 t5 := Tryz.underlying5
 a5 := Tryz.isAgg5
 z5 := Tryz.sizeOf5
 v5 := Tryz.zeroValue5
 t9 := Tryz.underlying9
 a9 := Tryz.isAgg9
 z9 := Tryz.sizeOf9
 v9 := Tryz.zeroValue9
 t20 := Tryz.underlying20
 a20 := Tryz.isAgg20
 z20 := Tryz.sizeOf20
 v20 := Tryz.zeroValue20
 t37 := Tryz.underlying57
 a37 := Tryz.isAgg57
 z37 := Tryz.sizeOf57
 v37 := Tryz.zeroValue57
 t46 := Tryz.underlying199
 a46 := Tryz.isAgg199
 z46 := Tryz.sizeOf199
 v46 := Tryz.zeroValue199
 t51 := Tryz.underlying196
 a51 := Tryz.isAgg196
 z51 := Tryz.sizeOf196
 v51 := Tryz.zeroValue196
 t53 := Tryz.underlying170
 a53 := Tryz.isAgg170
 z53 := Tryz.sizeOf170
 v53 := Tryz.zeroValue170
 t171 := Tryz.underlying169
 a171 := Tryz.isAgg169
 z171 := Tryz.sizeOf169
 v171 := Tryz.zeroValue169
 t173 := Tryz.underlying173
 a173 := Tryz.isAgg173
 z173 := Tryz.sizeOf173
 v173 := Tryz.zeroValue173
 t212 := Tryz.underlying195
 a212 := Tryz.isAgg195
 z212 := Tryz.sizeOf195
 v212 := Tryz.zeroValue195
 t213 := Tryz.underlying197
 a213 := Tryz.isAgg197
 z213 := Tryz.sizeOf197
 t232 := Tryz.underlying225
 a232 := Tryz.isAgg225
 z232 := Tryz.sizeOf225
 v232 := Tryz.zeroValue225
 t233 := Tryz.underlying226
 a233 := Tryz.isAgg226
 z233 := Tryz.sizeOf226
 v233 := Tryz.zeroValue226
 g17 := by kernel_rfl
 g18 := by kernel_rfl
 g19 := by kernel_rfl
 i0 := by kernel_rfl
 i2 := by kernel_rfl
 i3 := by kernel_rfl
 i4 := by kernel_rfl
 i5 := by kernel_rfl
 i9 := by kernel_rfl
 i20 := by kernel_rfl
 i37 := by kernel_rfl
 i46 := by kernel_rfl
 i51 := by kernel_rfl
 i53 := by kernel_rfl
 i171 := by kernel_rfl
 i173 := by kernel_rfl
 i212 := by kernel_rfl
 i232 := by kernel_rfl
 i233 := by kernel_rfl
 m17 := by kernel_rfl
 m18 := by kernel_rfl
 m19 := by kernel_rfl }
open Go.RowKit Go.Sort Go.Lib in
theorem Tryz.strconv_Itoa (n : Int) (h0 : -9223372036854775808 ≤ n) (h1 : n ≤ 9223372036854775807) (w : World) (htab : Lib.TabIs Tryz.prog w "internal/strconv.uint64pow10" .u64 Lib.pow10Tab) :
 Calls Tryz.prog 30 #[.int .i64 n] w fun e w' => e = .returned (.string ⟨(Lib.itoa n).toArray⟩) ∧ ∃ k os, w' = grow (w.drewN k) os := Any.strconv_Itoa Tryz.laysM171 n h0 h1 w htab
def Tryz.laysC172_ren : Go.Shelf.Ren := ⟨fun | 172 => 74 | 244 => 93 | 245 => 94 | 247 => 107 | 279 => 108 | 280 => 109 | 281 => 110 | 282 => 111 | 287 => 123 | 316 => 124 | 171 => 30 | 205 => 125 | 321 => 136 | 322 => 137 | 243 => 69 | 246 => 92 | 283 => 103 | 284 => 104 | 285 => 105 | 286 => 106 | 129 => 119 | 317 => 118 | 318 => 120 | 319 => 121 | 320 => 122 | 337 => 134 | 338 => 135 | n => n, fun | 9 => 9 | 3 => 3 | 75 => 28 | 76 => 112 | 4 => 4 | 5 => 5 | 167 => 175 | 37 => 57 | 0 => 0 | 85 => 176 | 2 => 2 | 168 => 178 | 53 => 170 | 175 => 201 | 46 => 199 | 210 => 205 | 127 => 168 | 145 => 218 | 143 => 216 | 21 => 21 | 171 => 169 | 173 => 173 | 212 => 195 | 51 => 196 | 20 => 20 | 213 => 197 | 232 => 225 | 233 => 226 | 80 => 111 | n => n, fun | 15 => 2 | 16 => 3 | 17 => 1 | 18 => 5 | 19 => 6 | n => n⟩
theorem Tryz.laysC172 : Go.Proofs.LaysC.n172 Tryz.prog Tryz.laysC172_ren := {
 mixed := by kernel_rfl
 f129 := Tryz.func119.trans (congrArg some (by kernel_rfl))
 f171 := Tryz.func30.trans (congrArg some (by kernel_rfl))
 f172 := Tryz.func74.trans (congrArg some (by kernel_rfl))
 f205 := Tryz.func125.trans (congrArg some (by kernel_rfl))
 f243 := Tryz.func69.trans (congrArg some (by kernel_rfl))
 f244 := Tryz.func93.trans (congrArg some (by kernel_rfl))
 f245 := Tryz.func94.trans (congrArg some (by kernel_rfl))
 f246 := Tryz.func92.trans (congrArg some (by kernel_rfl))
 f247 := Tryz.func107.trans (congrArg some (by kernel_rfl))
 f279 := Tryz.func108.trans (congrArg some (by kernel_rfl))
 f280 := Tryz.func109.trans (congrArg some (by kernel_rfl))
 f281 := Tryz.func110.trans (congrArg some (by kernel_rfl))
 f282 := Tryz.func111.trans (congrArg some (by kernel_rfl))
 f283 := Tryz.func103.trans (congrArg some (by kernel_rfl))
 f284 := Tryz.func104.trans (congrArg some (by kernel_rfl))
 f285 := Tryz.func105.trans (congrArg some (by kernel_rfl))
 f286 := Tryz.func106.trans (congrArg some (by kernel_rfl))
 f287 := Tryz.func123.trans (congrArg some (by kernel_rfl))
 f316 := Tryz.func124.trans (congrArg some (by kernel_rfl))
 f317 := Tryz.func118.trans (congrArg some (by kernel_rfl))
 f318 := Tryz.func120.trans (congrArg some (by kernel_rfl))
 f319 := Tryz.func121.trans (congrArg some (by kernel_rfl))
 f320 := Tryz.func122.trans (congrArg some (by kernel_rfl))
 f321 := Tryz.func136.trans (congrArg some (by kernel_rfl))
 f322 := Tryz.func137.trans (congrArg some (by kernel_rfl))
 f337 := Tryz.func134.trans (congrArg some (by kernel_rfl))
 f338 := Tryz.func135.trans (congrArg some (by kernel_rfl))
 t0 := Tryz.underlying0
 a0 := Tryz.isAgg0
 z0 := Tryz.sizeOf0
 v0 := Tryz.zeroValue0
 t2 := Tryz.underlying2
 a2 := Tryz.isAgg2
 z2 := Tryz.sizeOf2
 v2 := Tryz.zeroValue2
 t3 := Tryz.underlying3
 a3 := Tryz.isAgg3
 z3 := Tryz.sizeOf3
 v3 := Tryz.zeroValue3
 t4 := Tryz.underlying4
 a4 := Tryz.isAgg4
 z4 := Tryz.sizeOf4
 v4 := Tryz.zeroValue4
 t5 := Tryz.underlying5
 a5 := Tryz.isAgg5
 z5 := Tryz.sizeOf5
 v5 := Tryz.zeroValue5
 t9 := Tryz.underlying9
 a9 := Tryz.isAgg9
 z9 := Tryz.sizeOf9
 v9 := Tryz.zeroValue9
 t20 := Tryz.underlying20
 a20 := Tryz.isAgg20
 z20 := Tryz.sizeOf20
 v20 := Tryz.zeroValue20
 t21 := Tryz.underlying21
 a21 := Tryz.isAgg21
 z21 := Tryz.sizeOf21
 v21 := Tryz.zeroValue21
 t37 := Tryz.underlying57
 a37 := Tryz.isAgg57
 z37 := Tryz.sizeOf57
 v37 := Tryz.zeroValue57
 t46 := Tryz.underlying199
 a46 := Tryz.isAgg199
 z46 := Tryz.sizeOf199
 v46 := Tryz.zeroValue199
 t51 := Tryz.underlying196
 a51 := Tryz.isAgg196
 z51 := Tryz.sizeOf196
 v51 := Tryz.zeroValue196
 t53 := Tryz.underlying170
 a53 := Tryz.isAgg170
 z53 := Tryz.sizeOf170
 v53 := Tryz.zeroValue170
 t75 := Tryz.underlying28
 a75 := Tryz.isAgg28
 z75 := Tryz.sizeOf28
 v75 := Tryz.zeroValue28
 t76 := Tryz.underlying112
 a76 := Tryz.isAgg112
 z76 := Tryz.sizeOf112
 v76 := Tryz.zeroValue112
 t85 := Tryz.underlying176
 a85 := Tryz.isAgg176
 z85 := Tryz.sizeOf176
 v85 := Tryz.zeroValue176
 t127 := Tryz.underlying168
 a127 := Tryz.isAgg168
 z127 := Tryz.sizeOf168
 v127 := Tryz.zeroValue168
 t143 := Tryz.underlying216
 a143 := Tryz.isAgg216
 z143 := Tryz.sizeOf216
 v143 := Tryz.zeroValue216
 t145 := Tryz.underlying218
 a145 := Tryz.isAgg218
 z145 := Tryz.sizeOf218
 v145 := Tryz.zeroValue218
 t167 := Tryz.underlying175
 a167 := Tryz.isAgg175
 z167 := Tryz.sizeOf175
 v167 := Tryz.zeroValue175
 t168 := Tryz.underlying178
 a168 := Tryz.isAgg178
 z168 := Tryz.sizeOf178
 v168 := Tryz.zeroValue178
 t171 := Tryz.underlying169
 a171 := Tryz.isAgg169
 z171 := Tryz.sizeOf169
 v171 := Tryz.zeroValue169
 t173 := Tryz.underlying173
 a173 := Tryz.isAgg173
 z173 := Tryz.sizeOf173
 v173 := Tryz.zeroValue173
 t175 := Tryz.underlying201
 a175 := Tryz.isAgg201
 z175 := Tryz.sizeOf201
 v175 := Tryz.zeroValue201
 t210 := Tryz.underlying205
 a210 := Tryz.isAgg205
 z210 := Tryz.sizeOf205
 v210 := Tryz.zeroValue205
 t212 := Tryz.underlying195
 a212 := Tryz.isAgg195
 z212 := Tryz.sizeOf195
 v212 := Tryz.zeroValue195
 t213 := Tryz.underlying197
 a213 := Tryz.isAgg197
 z213 := Tryz.sizeOf197
 t232 := Tryz.underlying225
 a232 := Tryz.isAgg225
 z232 := Tryz.sizeOf225
 v232 := Tryz.zeroValue225
 t233 := Tryz.underlying226
 a233 := Tryz.isAgg226
 z233 := Tryz.sizeOf226
 v233 := Tryz.zeroValue226
 g15 := by kernel_rfl
 g16 := by kernel_rfl
 g17 := by kernel_rfl
 g18 := by kernel_rfl
 g19 := by kernel_rfl
 t80 := Tryz.underlying111
 a80 := Tryz.isAgg111
 z80 := Tryz.sizeOf111
 v80 := Tryz.zeroValue111
 i0 := by kernel_rfl
 i2 := by kernel_rfl
 i3 := by kernel_rfl
 i4 := by kernel_rfl
 i5 := by kernel_rfl
 i9 := by kernel_rfl
 i20 := by kernel_rfl
 i21 := by kernel_rfl
 i37 := by kernel_rfl
 i46 := by kernel_rfl
 i51 := by kernel_rfl
 i53 := by kernel_rfl
 i75 := by kernel_rfl
 i76 := by kernel_rfl
 i80 := by kernel_rfl
 i85 := by kernel_rfl
 i127 := by kernel_rfl
 i143 := by kernel_rfl
 i145 := by kernel_rfl
 i167 := by kernel_rfl
 i168 := by kernel_rfl
 i171 := by kernel_rfl
 i173 := by kernel_rfl
 i175 := by kernel_rfl
 i210 := by kernel_rfl
 i212 := by kernel_rfl
 i232 := by kernel_rfl
 i233 := by kernel_rfl
 m15 := by kernel_rfl
 m16 := by kernel_rfl
 m17 := by kernel_rfl
 m18 := by kernel_rfl
 m19 := by kernel_rfl
 c0 := by kernel_rfl
 c2 := by kernel_rfl
 c3 := by kernel_rfl
 c4 := by kernel_rfl
 c5 := by kernel_rfl
 c9 := by kernel_rfl
 c20 := by kernel_rfl
 c21 := by kernel_rfl
 c37 := by kernel_rfl
 c46 := by kernel_rfl
 c51 := by kernel_rfl
 c53 := by kernel_rfl
 c75 := by kernel_rfl
 c76 := by kernel_rfl
 c80 := by kernel_rfl
 c85 := by kernel_rfl
 c127 := by kernel_rfl
 c143 := by kernel_rfl
 c145 := by kernel_rfl
 c167 := by kernel_rfl
 c168 := by kernel_rfl
 c171 := by kernel_rfl
 c173 := by kernel_rfl
 c175 := by kernel_rfl
 c210 := by kernel_rfl
 c212 := by kernel_rfl
 c213 := by kernel_rfl
 c232 := by kernel_rfl
 c233 := by kernel_rfl }
open Go.RowKit in
theorem Tryz.strconv_Atoi_ok (s : ByteArray) (hmax : s.size ≤ 9223372036854775806) (v : Int) (h : Lib.atoiAll s.data.toList = .ok v) (w : World) :
 Calls Tryz.prog 74 #[.string s] w fun e w' => e = .returned (.tuple #[.int .i64 v, .nilIface]) ∧ (w' = w ∨ ∃ t, w' = Lib.bytesWorld w 5 t) := Any.strconv_Atoi_ok Tryz.laysC172 s hmax v h w
open Go.RowKit in
theorem Tryz.strconv_Atoi_syntax (s : ByteArray) (hlim : s.size ≤ 281474976710656) (h : Lib.atoiAll s.data.toList = .syntax) (ev : Value) (w : World) (hv : w.cell? ⟨2, 0, none⟩ = some ev) (hev : ev = .nilIface ∨ ∃ te pe, ev = .iface te pe) :
 Calls Tryz.prog 74 #[.string s] w fun e w' => ∃ N, e = .returned (.tuple #[.int .i64 (0), .iface 178 (.pointer (some ⟨N, 0, none⟩))]) ∧ w.heap.size ≤ N ∧ w'.heap[N]? = some (.cells #[.string ⟨#[65, 116, 111, 105]⟩, .string s, ev] 205 (0, 0)) ∧ Below w.heap.size w w' := Any.strconv_Atoi_syntax Tryz.laysC172 s hlim h ev w hv hev
open Go.RowKit in
theorem Tryz.strconv_Atoi_range (s : ByteArray) (hlim : s.size ≤ 281474976710656) (h : Lib.atoiAll s.data.toList = .range) (ev : Value) (w : World) (hv : w.cell? ⟨3, 0, none⟩ = some ev) (hev : ev = .nilIface ∨ ∃ te pe, ev = .iface te pe) :
 Calls Tryz.prog 74 #[.string s] w fun e w' => ∃ N, e = .returned (.tuple #[.int .i64 (Lib.atoiSat s.data.toList), .iface 178 (.pointer (some ⟨N, 0, none⟩))]) ∧ w.heap.size ≤ N ∧ w'.heap[N]? = some (.cells #[.string ⟨#[65, 116, 111, 105]⟩, .string s, ev] 205 (0, 0)) ∧ Below w.heap.size w w' := Any.strconv_Atoi_range Tryz.laysC172 s hlim h ev w hv hev
def Tryz.lays146_ren : Go.Shelf.Ren := ⟨fun | 146 => 77 | 221 => 97 | 268 => 112 | 138 => 113 | 143 => 114 | 195 => 126 | 197 => 127 | 218 => 128 | 219 => 129 | 260 => 138 | 217 => 139 | 225 => 140 | 224 => 141 | 267 => 142 | 266 => 147 | 314 => 148 | n => n, fun | 9 => 9 | 31 => 71 | 3 => 3 | 4 => 4 | 0 => 0 | 105 => 207 | 21 => 21 | 5 => 5 | 46 => 199 | 119 => 227 | 139 => 230 | 138 => 229 | 146 => 231 | 51 => 196 | n => n, fun | 1 => 4 | 3 => 7 | 4 => 8 | n => n⟩
theorem Tryz.lays146 : Go.Proofs.Lays.n146 Tryz.prog Tryz.lays146_ren := {
 mixed := by kernel_rfl
 f138 := Tryz.func113.trans (congrArg some (by kernel_rfl))
 f143 := Tryz.func114.trans (congrArg some (by kernel_rfl))
 f146 := Tryz.func77.trans (congrArg some (by kernel_rfl))
 f195 := Tryz.func126.trans (congrArg some (by kernel_rfl))
 f197 := Tryz.func127.trans (congrArg some (by kernel_rfl))
 f217 := Tryz.func139.trans (congrArg some (by kernel_rfl))
 f218 := Tryz.func128.trans (congrArg some (by kernel_rfl))
 f219 := Tryz.func129.trans (congrArg some (by kernel_rfl))
 f221 := Tryz.func97.trans (congrArg some (by kernel_rfl))
 f224 := Tryz.func141.trans (congrArg some (by kernel_rfl))
 f225 := Tryz.func140.trans (congrArg some (by kernel_rfl))
 f260 := Tryz.func138.trans (congrArg some (by kernel_rfl))
 f266 := Tryz.func147.trans (congrArg some (by kernel_rfl))
 f267 := Tryz.func142.trans (congrArg some (by kernel_rfl))
 f268 := Tryz.func112.trans (congrArg some (by kernel_rfl))
 f314 := Tryz.func148.trans (congrArg some (by kernel_rfl))
 t0 := Tryz.underlying0
 a0 := Tryz.isAgg0
 z0 := Tryz.sizeOf0
 v0 := Tryz.zeroValue0
 t3 := Tryz.underlying3
 a3 := Tryz.isAgg3
 z3 := Tryz.sizeOf3
 v3 := Tryz.zeroValue3
 t4 := Tryz.underlying4
 a4 := Tryz.isAgg4
 z4 := Tryz.sizeOf4
 v4 := Tryz.zeroValue4
 t5 := Tryz.underlying5
 a5 := Tryz.isAgg5
 z5 := Tryz.sizeOf5
 v5 := Tryz.zeroValue5
 t9 := Tryz.underlying9
 a9 := Tryz.isAgg9
 z9 := Tryz.sizeOf9
 v9 := Tryz.zeroValue9
 t21 := Tryz.underlying21
 a21 := Tryz.isAgg21
 z21 := Tryz.sizeOf21
 v21 := Tryz.zeroValue21
 t31 := Tryz.underlying71
 a31 := Tryz.isAgg71
 z31 := Tryz.sizeOf71
 v31 := Tryz.zeroValue71
 t46 := Tryz.underlying199
 a46 := Tryz.isAgg199
 z46 := Tryz.sizeOf199
 v46 := Tryz.zeroValue199
 t51 := Tryz.underlying196
 a51 := Tryz.isAgg196
 z51 := Tryz.sizeOf196
 v51 := Tryz.zeroValue196
 t105 := Tryz.underlying207
 a105 := Tryz.isAgg207
 z105 := Tryz.sizeOf207
 v105 := Tryz.zeroValue207
 t119 := Tryz.underlying227
 a119 := Tryz.isAgg227
 z119 := Tryz.sizeOf227
 t138 := Tryz.underlying229
 a138 := Tryz.isAgg229
 z138 := Tryz.sizeOf229
 v138 := Tryz.zeroValue229
 t139 := Tryz.underlying230
 a139 := Tryz.isAgg230
 z139 := Tryz.sizeOf230
 v139 := Tryz.zeroValue230
 t146 := Tryz.underlying231
 a146 := Tryz.isAgg231
 z146 := Tryz.sizeOf231
 v146 := Tryz.zeroValue231
 g1 := by kernel_rfl
 g3 := by kernel_rfl
 g4 := by kernel_rfl }
open Go.RowKit Go.Lib in
theorem Tryz.strings_Split (s sep : ByteArray) (m : Int) (w : World) (hs : s.size < 4294967281) (hm : w.cell? ⟨4, 0, none⟩ = some (.int .i64 m)) (h1 : 1 ≤ sep.size) :
 Calls Tryz.prog 77 #[.string s, .string sep] w fun e w' =>
  e = .returned (.slice (some ⟨w.heap.size, 0, none⟩) (Lib.countB s sep + 1) (Lib.countB s sep + 1)) ∧ w' = w.alloc (.cells ((Lib.splitB sep 0 (Lib.countB s sep) s).map Value.string).toArray 9) := Any.strings_Split Tryz.lays146 (by kernel_rfl) s sep m w hs hm h1
def Tryz.laysM146_ren : Go.Shelf.Ren := ⟨fun | 146 => 77 | 221 => 97 | 268 => 112 | 138 => 113 | 143 => 114 | 195 => 126 | 197 => 127 | 218 => 128 | 219 => 129 | 260 => 138 | 217 => 139 | 225 => 140 | 224 => 141 | 267 => 142 | 266 => 147 | 314 => 148 | n => n, fun | 9 => 9 | 31 => 71 | 3 => 3 | 4 => 4 | 0 => 0 | 105 => 207 | 21 => 21 | 5 => 5 | 46 => 199 | 119 => 227 | 139 => 230 | 138 => 229 | 146 => 231 | 51 => 196 | n => n, fun | 1 => 4 | 3 => 7 | 4 => 8 | n => n⟩
theorem Tryz.laysM146 : Go.Proofs.LaysM.n146 Tryz.prog Tryz.laysM146_ren := {
 mixed := by kernel_rfl
 f138 := Tryz.func113.trans (congrArg some (by kernel_rfl))
 f143 := Tryz.func114.trans (congrArg some (by kernel_rfl))
 f146 := Tryz.func77.trans (congrArg some (by kernel_rfl))
 f195 := Tryz.func126.trans (congrArg some (by kernel_rfl))
 f197 := Tryz.func127.trans (congrArg some (by kernel_rfl))
 f217 := Tryz.func139.trans (congrArg some (by kernel_rfl))
 f218 := Tryz.func128.trans (congrArg some (by kernel_rfl))
 f219 := Tryz.func129.trans (congrArg some (by kernel_rfl))
 f221 := Tryz.func97.trans (congrArg some (by kernel_rfl))
 f224 := Tryz.func141.trans (congrArg some (by kernel_rfl))
 f225 := Tryz.func140.trans (congrArg some (by kernel_rfl))
 f260 := Tryz.func138.trans (congrArg some (by kernel_rfl))
 f266 := Tryz.func147.trans (congrArg some (by kernel_rfl))
 f267 := Tryz.func142.trans (congrArg some (by kernel_rfl))
 f268 := Tryz.func112.trans (congrArg some (by kernel_rfl))
 f314 := Tryz.func148.trans (congrArg some (by kernel_rfl))
 t0 := Tryz.underlying0
 a0 := Tryz.isAgg0
 z0 := Tryz.sizeOf0
 v0 := Tryz.zeroValue0
 t3 := Tryz.underlying3
 a3 := Tryz.isAgg3
 z3 := Tryz.sizeOf3
 v3 := Tryz.zeroValue3
 t4 := Tryz.underlying4
 a4 := Tryz.isAgg4
 z4 := Tryz.sizeOf4
 v4 := Tryz.zeroValue4
 t5 := Tryz.underlying5
 a5 := Tryz.isAgg5
 z5 := Tryz.sizeOf5
 v5 := Tryz.zeroValue5
 t9 := Tryz.underlying9
 a9 := Tryz.isAgg9
 z9 := Tryz.sizeOf9
 v9 := Tryz.zeroValue9
 t21 := Tryz.underlying21
 a21 := Tryz.isAgg21
 z21 := Tryz.sizeOf21
 v21 := Tryz.zeroValue21
 t31 := Tryz.underlying71
 a31 := Tryz.isAgg71
 z31 := Tryz.sizeOf71
 v31 := Tryz.zeroValue71
 t46 := Tryz.underlying199
 a46 := Tryz.isAgg199
 z46 := Tryz.sizeOf199
 v46 := Tryz.zeroValue199
 t51 := Tryz.underlying196
 a51 := Tryz.isAgg196
 z51 := Tryz.sizeOf196
 v51 := Tryz.zeroValue196
 t105 := Tryz.underlying207
 a105 := Tryz.isAgg207
 z105 := Tryz.sizeOf207
 v105 := Tryz.zeroValue207
 t119 := Tryz.underlying227
 a119 := Tryz.isAgg227
 z119 := Tryz.sizeOf227
 t138 := Tryz.underlying229
 a138 := Tryz.isAgg229
 z138 := Tryz.sizeOf229
 v138 := Tryz.zeroValue229
 t139 := Tryz.underlying230
 a139 := Tryz.isAgg230
 z139 := Tryz.sizeOf230
 v139 := Tryz.zeroValue230
 t146 := Tryz.underlying231
 a146 := Tryz.isAgg231
 z146 := Tryz.sizeOf231
 v146 := Tryz.zeroValue231
 g1 := by kernel_rfl
 g3 := by kernel_rfl
 g4 := by kernel_rfl
 i0 := by kernel_rfl
 i3 := by kernel_rfl
 i4 := by kernel_rfl
 i5 := by kernel_rfl
 i9 := by kernel_rfl
 i21 := by kernel_rfl
 i31 := by kernel_rfl
 i46 := by kernel_rfl
 i51 := by kernel_rfl
 i105 := by kernel_rfl
 i138 := by kernel_rfl
 i139 := by kernel_rfl
 i146 := by kernel_rfl
 m1 := by kernel_rfl
 s1_3 := fun w h => Go.Proofs.cell_of_shapedOpen_int (zero := #[.int .i64 0]) (t := 3) h (of_decide_eq_true (by kernel_rfl)) (by kernel_rfl) rfl (by kernel_rfl) (by kernel_rfl) Tryz.underlying3
 m3 := by kernel_rfl
 m4 := by kernel_rfl }
def Tryz.lays109_ren : Go.Shelf.Ren := ⟨fun | 109 => 76 | n => n, fun | 31 => 71 | 9 => 9 | 3 => 3 | 0 => 0 | 4 => 4 | n => n, fun | n => n⟩
theorem Tryz.lays109 : Go.Proofs.Lays.n109 Tryz.prog Tryz.lays109_ren := {
 mixed := by kernel_rfl
 f109 := Tryz.func76.trans (congrArg some (by kernel_rfl))
 t0 := Tryz.underlying0
 a0 := Tryz.isAgg0
 z0 := Tryz.sizeOf0
 v0 := Tryz.zeroValue0
 t3 := Tryz.underlying3
 a3 := Tryz.isAgg3
 z3 := Tryz.sizeOf3
 v3 := Tryz.zeroValue3
 t4 := Tryz.underlying4
 a4 := Tryz.isAgg4
 z4 := Tryz.sizeOf4
 v4 := Tryz.zeroValue4
 t9 := Tryz.underlying9
 a9 := Tryz.isAgg9
 z9 := Tryz.sizeOf9
 v9 := Tryz.zeroValue9
 t31 := Tryz.underlying71
 a31 := Tryz.isAgg71
 z31 := Tryz.sizeOf71
 v31 := Tryz.zeroValue71 }
open Go.Lib in
theorem Tryz.slices_Index_string (b off n c : Nat) (zs : List ByteArray) (x : ByteArray) (w : World) (hz : n ≤ zs.length) (hbig : n ≤ 9223372036854775807) (hc : ∀ j, j < zs.length → w.cell? ⟨b, off + j, none⟩ = some (.string (zs.getD j ByteArray.empty))) :
 Calls Tryz.prog 76 #[.slice (some ⟨b, off, none⟩) n c, .string x] w fun e w' => e = .returned (.int .i64 (Lib.idxOfS (zs.take n) x)) ∧ w' = w := Any.slices_Index_string Tryz.lays109 b off n c zs x w hz hbig hc
end Go.Proofs
