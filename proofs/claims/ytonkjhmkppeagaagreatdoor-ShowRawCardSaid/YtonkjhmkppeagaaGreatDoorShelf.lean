/- Contracts of the library (strconv and others), laid at this translation by the tools of the shelf; what is not used is left out. -/
import Derived.Shelf.Strings.Builder1
import Derived.Shelf.Strings.Builder2
import Derived.Shelf.Strings.OnBuilder
import Derived.Shelf.Strings.BuilderF
import Derived.Shelf.Strings.BuilderK
import Derived.Shelf.Strings.Builder2Cap
import Derived.Shelf.Strconv.Atoi
import Derived.Shelf.Strconv.Itoa0
import Derived.Shelf.Strconv.Itoa1
import Derived.Shelf.LaysM
import Derived.Shelf.Strconv.Itoa2
import Derived.Shelf.Strconv.Itoa3
import Derived.Shelf.Strconv.AtoiErrFast
import Derived.Shelf.Strconv.ParseIntEmpty
import Derived.Shelf.Strconv.AtoiFail
import Derived.Shelf.Strconv.Clone
import Derived.Shelf.Strconv.SyntaxError
import Derived.Shelf.LaysC
import Derived.Shelf.Strconv.ToError
import Derived.Shelf.Strconv.Lower
import Derived.Shelf.Strconv.ParseUint10
import Derived.Shelf.Strconv.ParseUint10Empty
import Derived.Shelf.Strconv.ParseUint10Any
import Derived.Shelf.Strconv.ParseInt10
import Derived.Shelf.Strconv.AtoiLong
import Derived.Shelf.Strconv.AtoiInnerAll
import Derived.Shelf.Strconv.RangeError
import Derived.Shelf.Strconv.ToErrorRange
import Derived.Shelf.Strconv.AtoiAll
import Derived.Shelf.Strconv.ErrVarAll
import Derived.Shelf.Strconv.ParseUintEmpty
import Derived.Shelf.Strconv.ParseUint10b64
import Derived.Shelf.Strconv.ParseUint10b32
import Derived.Shelf.Strconv.ParseUint10b16
import Derived.Shelf.Strconv.ParseUint10b8
import Derived.Shelf.Strconv.ParseUint10At
import Derived.Shelf.Strconv.ParseInt10At64
import Derived.Shelf.Strconv.ParseInt10At32
import Derived.Shelf.Strconv.ParseInt10At16
import Derived.Shelf.Strconv.ParseInt10At8
import Derived.Shelf.Strconv.ParseInt10All
import Derived.Shelf.Strings.Prefix
import Derived.Shelf.Strings.BuilderCap
import Derived.Test.YtonkjhmkppeagaaGreatDoorProg
namespace Go.Proofs
open Go.Shelf
def Tryz.lays169_ren : Go.Shelf.Ren := ⟨fun | 169 => 75 | n => n, fun | 70 => 145 | 9 => 9 | 0 => 0 | 72 => 147 | 37 => 122 | 127 => 167 | 3 => 3 | 5 => 5 | n => n, fun | n => n⟩
theorem Tryz.lays169 : Go.Proofs.Lays.n169 Tryz.prog Tryz.lays169_ren := {
  mixed := by kernel_rfl
  f169 := Tryz.func75.trans (congrArg some (by kernel_rfl))
  t0 := Tryz.underlying0
  a0 := Tryz.isAgg0
  z0 := Tryz.sizeOf0
  v0 := Tryz.zeroValue0
  t3 := Tryz.underlying3
  a3 := Tryz.isAgg3
  z3 := Tryz.sizeOf3
  v3 := Tryz.zeroValue3
  t9 := Tryz.underlying9
  a9 := Tryz.isAgg9
  z9 := Tryz.sizeOf9
  v9 := Tryz.zeroValue9
  t37 := Tryz.underlying122
  a37 := Tryz.isAgg122
  z37 := Tryz.sizeOf122
  v37 := Tryz.zeroValue122
  t70 := Tryz.underlying145
  a70 := Tryz.isAgg145
  z70 := Tryz.sizeOf145
  v70 := Tryz.zeroValue145
  t72 := Tryz.underlying147
  a72 := Tryz.isAgg147
  z72 := Tryz.sizeOf147
  v72 := Tryz.zeroValue147
  t127 := Tryz.underlying167
  a127 := Tryz.isAgg167
  z127 := Tryz.sizeOf167
  v127 := Tryz.zeroValue167 }
theorem Tryz.Builder_Extra_169 : Builder.Extra Tryz.prog Tryz.lays169_ren := {
  sizeBuilder := by kernel_rfl
  liesBuilder := by kernel_rfl
  t5 := Tryz.underlying5
  a5 := Tryz.isAgg5
  z5 := Tryz.sizeOf5
  v5 := Tryz.zeroValue5
  infoByte := by kernel_rfl
  cellsByte := by kernel_rfl
  sizeByte := by kernel_rfl
  neB5 := by decide }
open Go.RowKit in
theorem Tryz.Builder_String (B b : Nat) (l : List UInt8) (w : World) (h : Lib.IsBuilder 147 5 B b (Lib.byteCells l) w) (h0 : l ≠ []) :
    Calls Tryz.prog 75 #[.pointer (some ⟨b, 0, none⟩)] w fun e w' => e = .returned (.string ⟨l.toArray⟩) ∧ Below B w w' := Any.Builder_String Tryz.lays169 Tryz.Builder_Extra_169 B b l w h h0
open Go.RowKit in
theorem Tryz.Builder_String_empty (B b : Nat) (w : World) (h : Lib.IsBuilder 147 5 B b [] w) (hBw : B ≤ w.heap.size) :
    Calls Tryz.prog 75 #[.pointer (some ⟨b, 0, none⟩)] w fun e w' => e = .returned (.string ⟨#[]⟩) ∧ Below B w w' := Any.Builder_String_empty Tryz.lays169 Tryz.Builder_Extra_169 B b w h hBw
open Go.RowKit in
theorem Tryz.Builder_String_any (B b : Nat) (l : List UInt8) (w : World) (h : Lib.IsBuilder 147 5 B b (Lib.byteCells l) w) (hBw : B ≤ w.heap.size) :
    Calls Tryz.prog 75 #[.pointer (some ⟨b, 0, none⟩)] w fun e w' => e = .returned (.string ⟨l.toArray⟩) ∧ Below B w w' := Any.Builder_String_any Tryz.lays169 Tryz.Builder_Extra_169 B b l w h hBw
def Tryz.lays156_ren : Go.Shelf.Ren := ⟨fun | 156 => 84 | 165 => 106 | 166 => 73 | 169 => 75 | 240 => 98 | 241 => 142 | 276 => 127 | 277 => 159 | n => n, fun | 31 => 48 | 9 => 9 | 3 => 3 | 4 => 4 | 0 => 0 | 20 => 20 | 72 => 147 | 76 => 150 | 70 => 145 | 37 => 122 | 75 => 149 | 127 => 167 | 164 => 183 | 5 => 5 | 80 => 105 | n => n, fun | n => n⟩
theorem Tryz.lays156 : Go.Proofs.Lays.n156 Tryz.prog Tryz.lays156_ren := {
  mixed := by kernel_rfl
  f156 := Tryz.func84.trans (congrArg some (by kernel_rfl))
  f165 := Tryz.func106.trans (congrArg some (by kernel_rfl))
  f166 := Tryz.func73.trans (congrArg some (by kernel_rfl))
  f169 := Tryz.func75.trans (congrArg some (by kernel_rfl))
  f240 := Tryz.func98.trans (congrArg some (by kernel_rfl))
  f241 := Tryz.func142.trans (congrArg some (by kernel_rfl))
  f276 := Tryz.func127.trans (congrArg some (by kernel_rfl))
  f277 := Tryz.func159.trans (congrArg some (by kernel_rfl))
  t0 := Tryz.underlying0
  a0 := Tryz.isAgg0
  z0 := Tryz.sizeOf0
  v0 := Tryz.zeroValue0
  t3 := Tryz.underlying3
  a3 := Tryz.isAgg3
  z3 := Tryz.sizeOf3
  v3 := Tryz.zeroValue3
  t4 := Tryz.underlying4
  a4 := Tryz.isAgg4
  z4 := Tryz.sizeOf4
  v4 := Tryz.zeroValue4
  t9 := Tryz.underlying9
  a9 := Tryz.isAgg9
  z9 := Tryz.sizeOf9
  v9 := Tryz.zeroValue9
  t20 := Tryz.underlying20
  a20 := Tryz.isAgg20
  z20 := Tryz.sizeOf20
  v20 := Tryz.zeroValue20
  t31 := Tryz.underlying48
  a31 := Tryz.isAgg48
  z31 := Tryz.sizeOf48
  v31 := Tryz.zeroValue48
  t37 := Tryz.underlying122
  a37 := Tryz.isAgg122
  z37 := Tryz.sizeOf122
  v37 := Tryz.zeroValue122
  t70 := Tryz.underlying145
  a70 := Tryz.isAgg145
  z70 := Tryz.sizeOf145
  v70 := Tryz.zeroValue145
  t72 := Tryz.underlying147
  a72 := Tryz.isAgg147
  z72 := Tryz.sizeOf147
  v72 := Tryz.zeroValue147
  t75 := Tryz.underlying149
  a75 := Tryz.isAgg149
  z75 := Tryz.sizeOf149
  v75 := Tryz.zeroValue149
  t76 := Tryz.underlying150
  a76 := Tryz.isAgg150
  z76 := Tryz.sizeOf150
  v76 := Tryz.zeroValue150
  t127 := Tryz.underlying167
  a127 := Tryz.isAgg167
  z127 := Tryz.sizeOf167
  v127 := Tryz.zeroValue167
  t164 := Tryz.underlying183
  a164 := Tryz.isAgg183
  z164 := Tryz.sizeOf183
  v164 := Tryz.zeroValue183 }
theorem Tryz.Builder_Extra_156 : Builder.Extra Tryz.prog Tryz.lays156_ren := {
  sizeBuilder := by kernel_rfl
  liesBuilder := by kernel_rfl
  t5 := Tryz.underlying5
  a5 := Tryz.isAgg5
  z5 := Tryz.sizeOf5
  v5 := Tryz.zeroValue5
  infoByte := by kernel_rfl
  cellsByte := by kernel_rfl
  sizeByte := by kernel_rfl
  neB5 := by decide }
open Go.RowKit in
theorem Tryz.strings_Join_none (a : Option Addr) (c : Nat) (sep : ByteArray) (w : World) :
    Calls Tryz.prog 84 #[.slice a 0 c, .string sep] w fun e w' => e = .returned (.string ⟨#[]⟩) ∧ w' = w := Any.strings_Join_none Tryz.lays156 Tryz.Builder_Extra_156 a c sep w
open Go.RowKit in
theorem Tryz.strings_Join (bk o c : Nat) (xs : List ByteArray) (sep : ByteArray) (w : World) (hcells : ∀ (j : Nat) x, xs[j]? = some x → w.cell? ⟨bk, o + j, none⟩ = some (.string x)) (hbk : bk < w.heap.size) (hN : xs.length ≤ 140737488355328) (hcap : xs.length ≤ c) (hlen : (Lib.join (xs.map (·.data.toList)) sep.data.toList).length ≤ 140737488355328) :
    Calls Tryz.prog 84 #[.slice (some ⟨bk, o, none⟩) xs.length c, .string sep] w fun e w' => e = .returned (.string ⟨(Lib.join (xs.map (·.data.toList)) sep.data.toList).toArray⟩) ∧ Below w.heap.size w w' := Any.strings_Join Tryz.lays156 Tryz.Builder_Extra_156 bk o c xs sep w hcells hbk hN hcap hlen
open Go.RowKit in
theorem Tryz.Builder_String_f (B b : Nat) (l : List UInt8) (w : World) (h : Lib.IsBuilderF 147 5 B b (Lib.byteCells l) w) (h0 : l ≠ []) :
    Calls Tryz.prog 75 #[.pointer (some ⟨b, 0, none⟩)] w fun e w' => e = .returned (.string ⟨l.toArray⟩) ∧ (Lib.IsBuilderF 147 5 B b (Lib.byteCells l) w' ∧ Below B w w') := Any.Builder_String_f Tryz.lays169 Tryz.Builder_Extra_169 B b l w h h0
open Go.RowKit in
theorem Tryz.Builder_String_empty_f (B b : Nat) (w : World) (h : Lib.IsBuilderF 147 5 B b [] w) (hBw : B ≤ w.heap.size) :
    Calls Tryz.prog 75 #[.pointer (some ⟨b, 0, none⟩)] w fun e w' => e = .returned (.string ⟨#[]⟩) ∧ (Lib.IsBuilderF 147 5 B b [] w' ∧ Below B w w') := Any.Builder_String_empty_f Tryz.lays169 Tryz.Builder_Extra_169 B b w h hBw
open Go.RowKit in
theorem Tryz.Builder_String_any_f (B b : Nat) (l : List UInt8) (w : World) (h : Lib.IsBuilderF 147 5 B b (Lib.byteCells l) w) (hBw : B ≤ w.heap.size) :
    Calls Tryz.prog 75 #[.pointer (some ⟨b, 0, none⟩)] w fun e w' => e = .returned (.string ⟨l.toArray⟩) ∧ (Lib.IsBuilderF 147 5 B b (Lib.byteCells l) w' ∧ Below B w w') := Any.Builder_String_any_f Tryz.lays169 Tryz.Builder_Extra_169 B b l w h hBw
def Tryz.laysM171_ren : Go.Shelf.Ren := ⟨fun | 171 => 70 | 243 => 96 | 246 => 121 | 283 => 148 | 284 => 149 | 285 => 150 | 286 => 151 | 129 => 161 | 317 => 160 | 318 => 162 | 319 => 163 | 320 => 164 | 337 => 171 | 338 => 172 | n => n, fun | 3 => 3 | 9 => 9 | 2 => 2 | 4 => 4 | 171 => 192 | 0 => 0 | 53 => 193 | 37 => 122 | 5 => 5 | 173 => 196 | 212 => 203 | 51 => 204 | 20 => 20 | 213 => 205 | 46 => 207 | 232 => 221 | 233 => 222 | n => n, fun | 17 => 2 | 18 => 6 | 19 => 7 | n => n⟩
theorem Tryz.laysM171 : Go.Proofs.LaysM.n171 Tryz.prog Tryz.laysM171_ren := {
  mixed := by kernel_rfl
  f129 := Tryz.func161.trans (congrArg some (by kernel_rfl))
  f171 := Tryz.func70.trans (congrArg some (by kernel_rfl))
  f243 := Tryz.func96.trans (congrArg some (by kernel_rfl))
  f246 := Tryz.func121.trans (congrArg some (by kernel_rfl))
  f283 := Tryz.func148.trans (congrArg some (by kernel_rfl))
  f284 := Tryz.func149.trans (congrArg some (by kernel_rfl))
  f285 := Tryz.func150.trans (congrArg some (by kernel_rfl))
  f286 := Tryz.func151.trans (congrArg some (by kernel_rfl))
  f317 := Tryz.func160.trans (congrArg some (by kernel_rfl))
  f318 := Tryz.func162.trans (congrArg some (by kernel_rfl))
  f319 := Tryz.func163.trans (congrArg some (by kernel_rfl))
  f320 := Tryz.func164.trans (congrArg some (by kernel_rfl))
  f337 := Tryz.func171.trans (congrArg some (by kernel_rfl))
  f338 := Tryz.func172.trans (congrArg some (by kernel_rfl))
  t0 := Tryz.underlying0
  a0 := Tryz.isAgg0
  z0 := Tryz.sizeOf0
  v0 := Tryz.zeroValue0
  t2 := Tryz.underlying2
  a2 := Tryz.isAgg2
  z2 := Tryz.sizeOf2
  v2 := Tryz.zeroValue2
  t3 := Tryz.underlying3
  a3 := Tryz.isAgg3
  z3 := Tryz.sizeOf3
  v3 := Tryz.zeroValue3
  t4 := Tryz.underlying4
  a4 := Tryz.isAgg4
  z4 := Tryz.sizeOf4
  v4 := Tryz.zeroValue4
  t5 := Tryz.underlying5
  a5 := Tryz.isAgg5
  z5 := Tryz.sizeOf5
  v5 := Tryz.zeroValue5
  t9 := Tryz.underlying9
  a9 := Tryz.isAgg9
  z9 := Tryz.sizeOf9
  v9 := Tryz.zeroValue9
  t20 := Tryz.underlying20
  a20 := Tryz.isAgg20
  z20 := Tryz.sizeOf20
  v20 := Tryz.zeroValue20
  t37 := Tryz.underlying122
  a37 := Tryz.isAgg122
  z37 := Tryz.sizeOf122
  v37 := Tryz.zeroValue122
  t46 := Tryz.underlying207
  a46 := Tryz.isAgg207
  z46 := Tryz.sizeOf207
  v46 := Tryz.zeroValue207
  t51 := Tryz.underlying204
  a51 := Tryz.isAgg204
  z51 := Tryz.sizeOf204
  v51 := Tryz.zeroValue204
  t53 := Tryz.underlying193
  a53 := Tryz.isAgg193
  z53 := Tryz.sizeOf193
  v53 := Tryz.zeroValue193
  t171 := Tryz.underlying192
  a171 := Tryz.isAgg192
  z171 := Tryz.sizeOf192
  v171 := Tryz.zeroValue192
  t173 := Tryz.underlying196
  a173 := Tryz.isAgg196
  z173 := Tryz.sizeOf196
  v173 := Tryz.zeroValue196
  t212 := Tryz.underlying203
  a212 := Tryz.isAgg203
  z212 := Tryz.sizeOf203
  v212 := Tryz.zeroValue203
  t213 := Tryz.underlying205
  a213 := Tryz.isAgg205
  z213 := Tryz.sizeOf205
  t232 := Tryz.underlying221
  a232 := Tryz.isAgg221
  z232 := Tryz.sizeOf221
  v232 := Tryz.zeroValue221
  t233 := Tryz.underlying222
  a233 := Tryz.isAgg222
  z233 := Tryz.sizeOf222
  v233 := Tryz.zeroValue222
  g17 := by kernel_rfl
  g18 := by kernel_rfl
  g19 := by kernel_rfl
  i0 := by kernel_rfl
  i2 := by kernel_rfl
  i3 := by kernel_rfl
  i4 := by kernel_rfl
  i5 := by kernel_rfl
  i9 := by kernel_rfl
  i20 := by kernel_rfl
  i37 := by kernel_rfl
  i46 := by kernel_rfl
  i51 := by kernel_rfl
  i53 := by kernel_rfl
  i171 := by kernel_rfl
  i173 := by kernel_rfl
  i212 := by kernel_rfl
  i232 := by kernel_rfl
  i233 := by kernel_rfl
  m17 := by kernel_rfl
  m18 := by kernel_rfl
  m19 := by kernel_rfl }
open Go.RowKit Go.Sort Go.Lib in
theorem Tryz.strconv_Itoa (n : Int) (h0 : -9223372036854775808 ≤ n) (h1 : n ≤ 9223372036854775807) (w : World) (htab : Lib.TabIs Tryz.prog w "internal/strconv.uint64pow10" .u64 Lib.pow10Tab) :
    Calls Tryz.prog 70 #[.int .i64 n] w fun e w' => e = .returned (.string ⟨(Lib.itoa n).toArray⟩) ∧ ∃ k os, w' = grow (w.drewN k) os := Any.strconv_Itoa Tryz.laysM171 n h0 h1 w htab
def Tryz.lays171_ren : Go.Shelf.Ren := ⟨fun | 171 => 70 | 243 => 96 | 246 => 121 | 283 => 148 | 284 => 149 | 285 => 150 | 286 => 151 | 129 => 161 | 317 => 160 | 318 => 162 | 319 => 163 | 320 => 164 | 337 => 171 | 338 => 172 | n => n, fun | 3 => 3 | 9 => 9 | 2 => 2 | 4 => 4 | 171 => 192 | 0 => 0 | 53 => 193 | 37 => 122 | 5 => 5 | 173 => 196 | 212 => 203 | 51 => 204 | 20 => 20 | 213 => 205 | 46 => 207 | 232 => 221 | 233 => 222 | n => n, fun | 17 => 2 | 18 => 6 | 19 => 7 | n => n⟩
theorem Tryz.lays171 : Go.Proofs.Lays.n171 Tryz.prog Tryz.lays171_ren := {
  mixed := by kernel_rfl
  f129 := Tryz.func161.trans (congrArg some (by kernel_rfl))
  f171 := Tryz.func70.trans (congrArg some (by kernel_rfl))
  f243 := Tryz.func96.trans (congrArg some (by kernel_rfl))
  f246 := Tryz.func121.trans (congrArg some (by kernel_rfl))
  f283 := Tryz.func148.trans (congrArg some (by kernel_rfl))
  f284 := Tryz.func149.trans (congrArg some (by kernel_rfl))
  f285 := Tryz.func150.trans (congrArg some (by kernel_rfl))
  f286 := Tryz.func151.trans (congrArg some (by kernel_rfl))
  f317 := Tryz.func160.trans (congrArg some (by kernel_rfl))
  f318 := Tryz.func162.trans (congrArg some (by kernel_rfl))
  f319 := Tryz.func163.trans (congrArg some (by kernel_rfl))
  f320 := Tryz.func164.trans (congrArg some (by kernel_rfl))
  f337 := Tryz.func171.trans (congrArg some (by kernel_rfl))
  f338 := Tryz.func172.trans (congrArg some (by kernel_rfl))
  t0 := Tryz.underlying0
  a0 := Tryz.isAgg0
  z0 := Tryz.sizeOf0
  v0 := Tryz.zeroValue0
  t2 := Tryz.underlying2
  a2 := Tryz.isAgg2
  z2 := Tryz.sizeOf2
  v2 := Tryz.zeroValue2
  t3 := Tryz.underlying3
  a3 := Tryz.isAgg3
  z3 := Tryz.sizeOf3
  v3 := Tryz.zeroValue3
  t4 := Tryz.underlying4
  a4 := Tryz.isAgg4
  z4 := Tryz.sizeOf4
  v4 := Tryz.zeroValue4
  t5 := Tryz.underlying5
  a5 := Tryz.isAgg5
  z5 := Tryz.sizeOf5
  v5 := Tryz.zeroValue5
  t9 := Tryz.underlying9
  a9 := Tryz.isAgg9
  z9 := Tryz.sizeOf9
  v9 := Tryz.zeroValue9
  t20 := Tryz.underlying20
  a20 := Tryz.isAgg20
  z20 := Tryz.sizeOf20
  v20 := Tryz.zeroValue20
  t37 := Tryz.underlying122
  a37 := Tryz.isAgg122
  z37 := Tryz.sizeOf122
  v37 := Tryz.zeroValue122
  t46 := Tryz.underlying207
  a46 := Tryz.isAgg207
  z46 := Tryz.sizeOf207
  v46 := Tryz.zeroValue207
  t51 := Tryz.underlying204
  a51 := Tryz.isAgg204
  z51 := Tryz.sizeOf204
  v51 := Tryz.zeroValue204
  t53 := Tryz.underlying193
  a53 := Tryz.isAgg193
  z53 := Tryz.sizeOf193
  v53 := Tryz.zeroValue193
  t171 := Tryz.underlying192
  a171 := Tryz.isAgg192
  z171 := Tryz.sizeOf192
  v171 := Tryz.zeroValue192
  t173 := Tryz.underlying196
  a173 := Tryz.isAgg196
  z173 := Tryz.sizeOf196
  v173 := Tryz.zeroValue196
  t212 := Tryz.underlying203
  a212 := Tryz.isAgg203
  z212 := Tryz.sizeOf203
  v212 := Tryz.zeroValue203
  t213 := Tryz.underlying205
  a213 := Tryz.isAgg205
  z213 := Tryz.sizeOf205
  t232 := Tryz.underlying221
  a232 := Tryz.isAgg221
  z232 := Tryz.sizeOf221
  v232 := Tryz.zeroValue221
  t233 := Tryz.underlying222
  a233 := Tryz.isAgg222
  z233 := Tryz.sizeOf222
  v233 := Tryz.zeroValue222
  g17 := by kernel_rfl
  g18 := by kernel_rfl
  g19 := by kernel_rfl }
open Go.RowKit Go.Sort Go.Lib in
theorem Tryz.strconv_Itoa_small (i : Nat) (hi : i < 100) (w : World) :
    Calls Tryz.prog 70 #[.int .i64 i] w fun e w' => e = .returned (.string ⟨(Lib.decDigits i).toArray⟩) ∧ w' = w := Any.strconv_Itoa_small Tryz.lays171 i hi w
def Tryz.laysC172_ren : Go.Shelf.Ren := ⟨fun | 172 => 135 | 244 => 152 | 245 => 153 | 247 => 165 | 279 => 166 | 280 => 167 | 281 => 168 | 282 => 169 | 287 => 173 | 316 => 174 | 171 => 70 | 205 => 175 | 321 => 177 | 322 => 178 | 243 => 96 | 246 => 121 | 283 => 148 | 284 => 149 | 285 => 150 | 286 => 151 | 129 => 161 | 317 => 160 | 318 => 162 | 319 => 163 | 320 => 164 | 337 => 171 | 338 => 172 | n => n, fun | 9 => 9 | 3 => 3 | 75 => 149 | 76 => 150 | 4 => 4 | 5 => 5 | 167 => 209 | 37 => 122 | 0 => 0 | 85 => 210 | 2 => 2 | 168 => 212 | 53 => 193 | 175 => 216 | 46 => 207 | 210 => 219 | 127 => 167 | 145 => 226 | 143 => 224 | 21 => 21 | 171 => 192 | 173 => 196 | 212 => 203 | 51 => 204 | 20 => 20 | 213 => 205 | 232 => 221 | 233 => 222 | 80 => 105 | n => n, fun | 15 => 4 | 16 => 5 | 17 => 2 | 18 => 6 | 19 => 7 | n => n⟩
theorem Tryz.laysC172 : Go.Proofs.LaysC.n172 Tryz.prog Tryz.laysC172_ren := {
  mixed := by kernel_rfl
  f129 := Tryz.func161.trans (congrArg some (by kernel_rfl))
  f171 := Tryz.func70.trans (congrArg some (by kernel_rfl))
  f172 := Tryz.func135.trans (congrArg some (by kernel_rfl))
  f205 := Tryz.func175.trans (congrArg some (by kernel_rfl))
  f243 := Tryz.func96.trans (congrArg some (by kernel_rfl))
  f244 := Tryz.func152.trans (congrArg some (by kernel_rfl))
  f245 := Tryz.func153.trans (congrArg some (by kernel_rfl))
  f246 := Tryz.func121.trans (congrArg some (by kernel_rfl))
  f247 := Tryz.func165.trans (congrArg some (by kernel_rfl))
  f279 := Tryz.func166.trans (congrArg some (by kernel_rfl))
  f280 := Tryz.func167.trans (congrArg some (by kernel_rfl))
  f281 := Tryz.func168.trans (congrArg some (by kernel_rfl))
  f282 := Tryz.func169.trans (congrArg some (by kernel_rfl))
  f283 := Tryz.func148.trans (congrArg some (by kernel_rfl))
  f284 := Tryz.func149.trans (congrArg some (by kernel_rfl))
  f285 := Tryz.func150.trans (congrArg some (by kernel_rfl))
  f286 := Tryz.func151.trans (congrArg some (by kernel_rfl))
  f287 := Tryz.func173.trans (congrArg some (by kernel_rfl))
  f316 := Tryz.func174.trans (congrArg some (by kernel_rfl))
  f317 := Tryz.func160.trans (congrArg some (by kernel_rfl))
  f318 := Tryz.func162.trans (congrArg some (by kernel_rfl))
  f319 := Tryz.func163.trans (congrArg some (by kernel_rfl))
  f320 := Tryz.func164.trans (congrArg some (by kernel_rfl))
  f321 := Tryz.func177.trans (congrArg some (by kernel_rfl))
  f322 := Tryz.func178.trans (congrArg some (by kernel_rfl))
  f337 := Tryz.func171.trans (congrArg some (by kernel_rfl))
  f338 := Tryz.func172.trans (congrArg some (by kernel_rfl))
  t0 := Tryz.underlying0
  a0 := Tryz.isAgg0
  z0 := Tryz.sizeOf0
  v0 := Tryz.zeroValue0
  t2 := Tryz.underlying2
  a2 := Tryz.isAgg2
  z2 := Tryz.sizeOf2
  v2 := Tryz.zeroValue2
  t3 := Tryz.underlying3
  a3 := Tryz.isAgg3
  z3 := Tryz.sizeOf3
  v3 := Tryz.zeroValue3
  t4 := Tryz.underlying4
  a4 := Tryz.isAgg4
  z4 := Tryz.sizeOf4
  v4 := Tryz.zeroValue4
  t5 := Tryz.underlying5
  a5 := Tryz.isAgg5
  z5 := Tryz.sizeOf5
  v5 := Tryz.zeroValue5
  t9 := Tryz.underlying9
  a9 := Tryz.isAgg9
  z9 := Tryz.sizeOf9
  v9 := Tryz.zeroValue9
  t20 := Tryz.underlying20
  a20 := Tryz.isAgg20
  z20 := Tryz.sizeOf20
  v20 := Tryz.zeroValue20
  t21 := Tryz.underlying21
  a21 := Tryz.isAgg21
  z21 := Tryz.sizeOf21
  v21 := Tryz.zeroValue21
  t37 := Tryz.underlying122
  a37 := Tryz.isAgg122
  z37 := Tryz.sizeOf122
  v37 := Tryz.zeroValue122
  t46 := Tryz.underlying207
  a46 := Tryz.isAgg207
  z46 := Tryz.sizeOf207
  v46 := Tryz.zeroValue207
  t51 := Tryz.underlying204
  a51 := Tryz.isAgg204
  z51 := Tryz.sizeOf204
  v51 := Tryz.zeroValue204
  t53 := Tryz.underlying193
  a53 := Tryz.isAgg193
  z53 := Tryz.sizeOf193
  v53 := Tryz.zeroValue193
  t75 := Tryz.underlying149
  a75 := Tryz.isAgg149
  z75 := Tryz.sizeOf149
  v75 := Tryz.zeroValue149
  t76 := Tryz.underlying150
  a76 := Tryz.isAgg150
  z76 := Tryz.sizeOf150
  v76 := Tryz.zeroValue150
  t85 := Tryz.underlying210
  a85 := Tryz.isAgg210
  z85 := Tryz.sizeOf210
  v85 := Tryz.zeroValue210
  t127 := Tryz.underlying167
  a127 := Tryz.isAgg167
  z127 := Tryz.sizeOf167
  v127 := Tryz.zeroValue167
  t143 := Tryz.underlying224
  a143 := Tryz.isAgg224
  z143 := Tryz.sizeOf224
  v143 := Tryz.zeroValue224
  t145 := Tryz.underlying226
  a145 := Tryz.isAgg226
  z145 := Tryz.sizeOf226
  v145 := Tryz.zeroValue226
  t167 := Tryz.underlying209
  a167 := Tryz.isAgg209
  z167 := Tryz.sizeOf209
  v167 := Tryz.zeroValue209
  t168 := Tryz.underlying212
  a168 := Tryz.isAgg212
  z168 := Tryz.sizeOf212
  v168 := Tryz.zeroValue212
  t171 := Tryz.underlying192
  a171 := Tryz.isAgg192
  z171 := Tryz.sizeOf192
  v171 := Tryz.zeroValue192
  t173 := Tryz.underlying196
  a173 := Tryz.isAgg196
  z173 := Tryz.sizeOf196
  v173 := Tryz.zeroValue196
  t175 := Tryz.underlying216
  a175 := Tryz.isAgg216
  z175 := Tryz.sizeOf216
  v175 := Tryz.zeroValue216
  t210 := Tryz.underlying219
  a210 := Tryz.isAgg219
  z210 := Tryz.sizeOf219
  v210 := Tryz.zeroValue219
  t212 := Tryz.underlying203
  a212 := Tryz.isAgg203
  z212 := Tryz.sizeOf203
  v212 := Tryz.zeroValue203
  t213 := Tryz.underlying205
  a213 := Tryz.isAgg205
  z213 := Tryz.sizeOf205
  t232 := Tryz.underlying221
  a232 := Tryz.isAgg221
  z232 := Tryz.sizeOf221
  v232 := Tryz.zeroValue221
  t233 := Tryz.underlying222
  a233 := Tryz.isAgg222
  z233 := Tryz.sizeOf222
  v233 := Tryz.zeroValue222
  g15 := by kernel_rfl
  g16 := by kernel_rfl
  g17 := by kernel_rfl
  g18 := by kernel_rfl
  g19 := by kernel_rfl
  t80 := Tryz.underlying105
  a80 := Tryz.isAgg105
  z80 := Tryz.sizeOf105
  v80 := Tryz.zeroValue105
  i0 := by kernel_rfl
  i2 := by kernel_rfl
  i3 := by kernel_rfl
  i4 := by kernel_rfl
  i5 := by kernel_rfl
  i9 := by kernel_rfl
  i20 := by kernel_rfl
  i21 := by kernel_rfl
  i37 := by kernel_rfl
  i46 := by kernel_rfl
  i51 := by kernel_rfl
  i53 := by kernel_rfl
  i75 := by kernel_rfl
  i76 := by kernel_rfl
  i80 := by kernel_rfl
  i85 := by kernel_rfl
  i127 := by kernel_rfl
  i143 := by kernel_rfl
  i145 := by kernel_rfl
  i167 := by kernel_rfl
  i168 := by kernel_rfl
  i171 := by kernel_rfl
  i173 := by kernel_rfl
  i175 := by kernel_rfl
  i210 := by kernel_rfl
  i212 := by kernel_rfl
  i232 := by kernel_rfl
  i233 := by kernel_rfl
  m15 := by kernel_rfl
  m16 := by kernel_rfl
  m17 := by kernel_rfl
  m18 := by kernel_rfl
  m19 := by kernel_rfl
  c0 := by kernel_rfl
  c2 := by kernel_rfl
  c3 := by kernel_rfl
  c4 := by kernel_rfl
  c5 := by kernel_rfl
  c9 := by kernel_rfl
  c20 := by kernel_rfl
  c21 := by kernel_rfl
  c37 := by kernel_rfl
  c46 := by kernel_rfl
  c51 := by kernel_rfl
  c53 := by kernel_rfl
  c75 := by kernel_rfl
  c76 := by kernel_rfl
  c80 := by kernel_rfl
  c85 := by kernel_rfl
  c127 := by kernel_rfl
  c143 := by kernel_rfl
  c145 := by kernel_rfl
  c167 := by kernel_rfl
  c168 := by kernel_rfl
  c171 := by kernel_rfl
  c173 := by kernel_rfl
  c175 := by kernel_rfl
  c210 := by kernel_rfl
  c212 := by kernel_rfl
  c213 := by kernel_rfl
  c232 := by kernel_rfl
  c233 := by kernel_rfl }
open Go.RowKit in
theorem Tryz.strconv_Atoi_ok (s : ByteArray) (hmax : s.size ≤ 9223372036854775806) (v : Int) (h : Lib.atoiAll s.data.toList = .ok v) (w : World) :
    Calls Tryz.prog 135 #[.string s] w fun e w' => e = .returned (.tuple #[.int .i64 v, .nilIface]) ∧ (w' = w ∨ ∃ t, w' = Lib.bytesWorld w 5 t) := Any.strconv_Atoi_ok Tryz.laysC172 s hmax v h w
def Tryz.lays99_ren : Go.Shelf.Ren := ⟨fun | 99 => 138 | 206 => 156 | n => n, fun | 9 => 9 | 4 => 4 | 3 => 3 | n => n, fun | n => n⟩
theorem Tryz.lays99 : Go.Proofs.Lays.n99 Tryz.prog Tryz.lays99_ren := {
  mixed := by kernel_rfl
  f99 := Tryz.func138.trans (congrArg some (by kernel_rfl))
  f206 := Tryz.func156.trans (congrArg some (by kernel_rfl))
  t3 := Tryz.underlying3
  a3 := Tryz.isAgg3
  z3 := Tryz.sizeOf3
  v3 := Tryz.zeroValue3
  t4 := Tryz.underlying4
  a4 := Tryz.isAgg4
  z4 := Tryz.sizeOf4
  v4 := Tryz.zeroValue4
  t9 := Tryz.underlying9
  a9 := Tryz.isAgg9
  z9 := Tryz.sizeOf9
  v9 := Tryz.zeroValue9 }
open Go.RowKit Go.Lib in
theorem Tryz.strings_HasPrefix (s p : ByteArray) (w : World) :
    Calls Tryz.prog 138 #[.string s, .string p] w fun e w' => e = .returned (.bool (Lib.hasPrefix s.data.toList p.data.toList)) ∧ w' = w := Any.strings_HasPrefix Tryz.lays99 s p w
end Go.Proofs
