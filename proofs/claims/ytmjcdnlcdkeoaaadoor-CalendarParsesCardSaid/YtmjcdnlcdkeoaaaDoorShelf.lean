/- Contracts of the library (strconv and others), laid at this translation by the tools of the shelf; what is not used is left out. -/
import Derived.Shelf.Strconv.Atoi
import Derived.Shelf.Strconv.Itoa0
import Derived.Shelf.Strconv.Itoa1
import Derived.Shelf.LaysM
import Derived.Shelf.Strconv.Itoa2
import Derived.Shelf.Strconv.Itoa3
import Derived.Shelf.Strconv.AtoiErrFast
import Derived.Shelf.Strconv.ParseIntEmpty
import Derived.Shelf.Strconv.AtoiFail
import Derived.Shelf.Strconv.Clone
import Derived.Shelf.Strconv.SyntaxError
import Derived.Shelf.LaysC
import Derived.Shelf.Strconv.ToError
import Derived.Shelf.Strconv.Lower
import Derived.Shelf.Strconv.ParseUint10
import Derived.Shelf.Strconv.ParseUint10Empty
import Derived.Shelf.Strconv.ParseUint10Any
import Derived.Shelf.Strconv.ParseInt10
import Derived.Shelf.Strconv.AtoiLong
import Derived.Shelf.Strconv.AtoiInnerAll
import Derived.Shelf.Strconv.RangeError
import Derived.Shelf.Strconv.ToErrorRange
import Derived.Shelf.Strconv.AtoiAll
import Derived.Shelf.Strconv.ErrVarAll
import Derived.Shelf.Strconv.ParseUintEmpty
import Derived.Shelf.Strconv.ParseUint10b64
import Derived.Shelf.Strconv.ParseUint10b32
import Derived.Shelf.Strconv.ParseUint10b16
import Derived.Shelf.Strconv.ParseUint10b8
import Derived.Shelf.Strconv.ParseUint10At
import Derived.Shelf.Strconv.ParseInt10At64
import Derived.Shelf.Strconv.ParseInt10At32
import Derived.Shelf.Strconv.ParseInt10At16
import Derived.Shelf.Strconv.ParseInt10At8
import Derived.Shelf.Strconv.ParseInt10All
import Derived.Test.YtmjcdnlcdkeoaaaDoorProg
namespace Go.Proofs
open Go.Shelf
def Tryd.laysM171_ren : Go.Shelf.Ren := ⟨fun | 171 => 32 | 243 => 36 | 246 => 42 | 283 => 46 | 284 => 47 | 285 => 48 | 286 => 49 | 129 => 53 | 317 => 52 | 318 => 54 | 319 => 55 | 320 => 56 | 337 => 57 | 338 => 58 | n => n, fun | 3 => 3 | 9 => 9 | 2 => 2 | 4 => 4 | 171 => 72 | 0 => 0 | 53 => 64 | 37 => 56 | 5 => 5 | 173 => 75 | 212 => 83 | 51 => 84 | 20 => 20 | 213 => 85 | 46 => 67 | 232 => 88 | 233 => 89 | n => n, fun | 17 => 3 | 18 => 4 | 19 => 5 | n => n⟩
theorem Tryd.laysM171 : Go.Proofs.LaysM.n171 Tryd.prog Tryd.laysM171_ren := {
  mixed := by kernel_rfl
  f129 := Tryd.func53.trans (congrArg some (by kernel_rfl))
  f171 := Tryd.func32.trans (congrArg some (by kernel_rfl))
  f243 := Tryd.func36.trans (congrArg some (by kernel_rfl))
  f246 := Tryd.func42.trans (congrArg some (by kernel_rfl))
  f283 := Tryd.func46.trans (congrArg some (by kernel_rfl))
  f284 := Tryd.func47.trans (congrArg some (by kernel_rfl))
  f285 := Tryd.func48.trans (congrArg some (by kernel_rfl))
  f286 := Tryd.func49.trans (congrArg some (by kernel_rfl))
  f317 := Tryd.func52.trans (congrArg some (by kernel_rfl))
  f318 := Tryd.func54.trans (congrArg some (by kernel_rfl))
  f319 := Tryd.func55.trans (congrArg some (by kernel_rfl))
  f320 := Tryd.func56.trans (congrArg some (by kernel_rfl))
  f337 := Tryd.func57.trans (congrArg some (by kernel_rfl))
  f338 := Tryd.func58.trans (congrArg some (by kernel_rfl))
  t0 := Tryd.underlying0
  a0 := Tryd.isAgg0
  z0 := Tryd.sizeOf0
  v0 := Tryd.zeroValue0
  t2 := Tryd.underlying2
  a2 := Tryd.isAgg2
  z2 := Tryd.sizeOf2
  v2 := Tryd.zeroValue2
  t3 := Tryd.underlying3
  a3 := Tryd.isAgg3
  z3 := Tryd.sizeOf3
  v3 := Tryd.zeroValue3
  t4 := Tryd.underlying4
  a4 := Tryd.isAgg4
  z4 := Tryd.sizeOf4
  v4 := Tryd.zeroValue4
  t5 := Tryd.underlying5
  a5 := Tryd.isAgg5
  z5 := Tryd.sizeOf5
  v5 := Tryd.zeroValue5
  t9 := Tryd.underlying9
  a9 := Tryd.isAgg9
  z9 := Tryd.sizeOf9
  v9 := Tryd.zeroValue9
  t20 := Tryd.underlying20
  a20 := Tryd.isAgg20
  z20 := Tryd.sizeOf20
  v20 := Tryd.zeroValue20
  t37 := Tryd.underlying56
  a37 := Tryd.isAgg56
  z37 := Tryd.sizeOf56
  v37 := Tryd.zeroValue56
  t46 := Tryd.underlying67
  a46 := Tryd.isAgg67
  z46 := Tryd.sizeOf67
  v46 := Tryd.zeroValue67
  t51 := Tryd.underlying84
  a51 := Tryd.isAgg84
  z51 := Tryd.sizeOf84
  v51 := Tryd.zeroValue84
  t53 := Tryd.underlying64
  a53 := Tryd.isAgg64
  z53 := Tryd.sizeOf64
  v53 := Tryd.zeroValue64
  t171 := Tryd.underlying72
  a171 := Tryd.isAgg72
  z171 := Tryd.sizeOf72
  v171 := Tryd.zeroValue72
  t173 := Tryd.underlying75
  a173 := Tryd.isAgg75
  z173 := Tryd.sizeOf75
  v173 := Tryd.zeroValue75
  t212 := Tryd.underlying83
  a212 := Tryd.isAgg83
  z212 := Tryd.sizeOf83
  v212 := Tryd.zeroValue83
  t213 := Tryd.underlying85
  a213 := Tryd.isAgg85
  z213 := Tryd.sizeOf85
  t232 := Tryd.underlying88
  a232 := Tryd.isAgg88
  z232 := Tryd.sizeOf88
  v232 := Tryd.zeroValue88
  t233 := Tryd.underlying89
  a233 := Tryd.isAgg89
  z233 := Tryd.sizeOf89
  v233 := Tryd.zeroValue89
  g17 := by kernel_rfl
  g18 := by kernel_rfl
  g19 := by kernel_rfl
  i0 := by kernel_rfl
  i2 := by kernel_rfl
  i3 := by kernel_rfl
  i4 := by kernel_rfl
  i5 := by kernel_rfl
  i9 := by kernel_rfl
  i20 := by kernel_rfl
  i37 := by kernel_rfl
  i46 := by kernel_rfl
  i51 := by kernel_rfl
  i53 := by kernel_rfl
  i171 := by kernel_rfl
  i173 := by kernel_rfl
  i212 := by kernel_rfl
  i232 := by kernel_rfl
  i233 := by kernel_rfl
  m17 := by kernel_rfl
  m18 := by kernel_rfl
  m19 := by kernel_rfl }
open Go.RowKit Go.Sort Go.Lib in
theorem Tryd.strconv_Itoa (n : Int) (h0 : -9223372036854775808 ≤ n) (h1 : n ≤ 9223372036854775807) (w : World) (htab : Lib.TabIs Tryd.prog w "internal/strconv.uint64pow10" .u64 Lib.pow10Tab) :
    Calls Tryd.prog 32 #[.int .i64 n] w fun e w' => e = .returned (.string ⟨(Lib.itoa n).toArray⟩) ∧ ∃ k os, w' = grow (w.drewN k) os := Any.strconv_Itoa Tryd.laysM171 n h0 h1 w htab
def Tryd.lays171_ren : Go.Shelf.Ren := ⟨fun | 171 => 32 | 243 => 36 | 246 => 42 | 283 => 46 | 284 => 47 | 285 => 48 | 286 => 49 | 129 => 53 | 317 => 52 | 318 => 54 | 319 => 55 | 320 => 56 | 337 => 57 | 338 => 58 | n => n, fun | 3 => 3 | 9 => 9 | 2 => 2 | 4 => 4 | 171 => 72 | 0 => 0 | 53 => 64 | 37 => 56 | 5 => 5 | 173 => 75 | 212 => 83 | 51 => 84 | 20 => 20 | 213 => 85 | 46 => 67 | 232 => 88 | 233 => 89 | n => n, fun | 17 => 3 | 18 => 4 | 19 => 5 | n => n⟩
theorem Tryd.lays171 : Go.Proofs.Lays.n171 Tryd.prog Tryd.lays171_ren := {
  mixed := by kernel_rfl
  f129 := Tryd.func53.trans (congrArg some (by kernel_rfl))
  f171 := Tryd.func32.trans (congrArg some (by kernel_rfl))
  f243 := Tryd.func36.trans (congrArg some (by kernel_rfl))
  f246 := Tryd.func42.trans (congrArg some (by kernel_rfl))
  f283 := Tryd.func46.trans (congrArg some (by kernel_rfl))
  f284 := Tryd.func47.trans (congrArg some (by kernel_rfl))
  f285 := Tryd.func48.trans (congrArg some (by kernel_rfl))
  f286 := Tryd.func49.trans (congrArg some (by kernel_rfl))
  f317 := Tryd.func52.trans (congrArg some (by kernel_rfl))
  f318 := Tryd.func54.trans (congrArg some (by kernel_rfl))
  f319 := Tryd.func55.trans (congrArg some (by kernel_rfl))
  f320 := Tryd.func56.trans (congrArg some (by kernel_rfl))
  f337 := Tryd.func57.trans (congrArg some (by kernel_rfl))
  f338 := Tryd.func58.trans (congrArg some (by kernel_rfl))
  t0 := Tryd.underlying0
  a0 := Tryd.isAgg0
  z0 := Tryd.sizeOf0
  v0 := Tryd.zeroValue0
  t2 := Tryd.underlying2
  a2 := Tryd.isAgg2
  z2 := Tryd.sizeOf2
  v2 := Tryd.zeroValue2
  t3 := Tryd.underlying3
  a3 := Tryd.isAgg3
  z3 := Tryd.sizeOf3
  v3 := Tryd.zeroValue3
  t4 := Tryd.underlying4
  a4 := Tryd.isAgg4
  z4 := Tryd.sizeOf4
  v4 := Tryd.zeroValue4
  t5 := Tryd.underlying5
  a5 := Tryd.isAgg5
  z5 := Tryd.sizeOf5
  v5 := Tryd.zeroValue5
  t9 := Tryd.underlying9
  a9 := Tryd.isAgg9
  z9 := Tryd.sizeOf9
  v9 := Tryd.zeroValue9
  t20 := Tryd.underlying20
  a20 := Tryd.isAgg20
  z20 := Tryd.sizeOf20
  v20 := Tryd.zeroValue20
  t37 := Tryd.underlying56
  a37 := Tryd.isAgg56
  z37 := Tryd.sizeOf56
  v37 := Tryd.zeroValue56
  t46 := Tryd.underlying67
  a46 := Tryd.isAgg67
  z46 := Tryd.sizeOf67
  v46 := Tryd.zeroValue67
  t51 := Tryd.underlying84
  a51 := Tryd.isAgg84
  z51 := Tryd.sizeOf84
  v51 := Tryd.zeroValue84
  t53 := Tryd.underlying64
  a53 := Tryd.isAgg64
  z53 := Tryd.sizeOf64
  v53 := Tryd.zeroValue64
  t171 := Tryd.underlying72
  a171 := Tryd.isAgg72
  z171 := Tryd.sizeOf72
  v171 := Tryd.zeroValue72
  t173 := Tryd.underlying75
  a173 := Tryd.isAgg75
  z173 := Tryd.sizeOf75
  v173 := Tryd.zeroValue75
  t212 := Tryd.underlying83
  a212 := Tryd.isAgg83
  z212 := Tryd.sizeOf83
  v212 := Tryd.zeroValue83
  t213 := Tryd.underlying85
  a213 := Tryd.isAgg85
  z213 := Tryd.sizeOf85
  t232 := Tryd.underlying88
  a232 := Tryd.isAgg88
  z232 := Tryd.sizeOf88
  v232 := Tryd.zeroValue88
  t233 := Tryd.underlying89
  a233 := Tryd.isAgg89
  z233 := Tryd.sizeOf89
  v233 := Tryd.zeroValue89
  g17 := by kernel_rfl
  g18 := by kernel_rfl
  g19 := by kernel_rfl }
open Go.RowKit Go.Sort Go.Lib in
theorem Tryd.strconv_Itoa_small (i : Nat) (hi : i < 100) (w : World) :
    Calls Tryd.prog 32 #[.int .i64 i] w fun e w' => e = .returned (.string ⟨(Lib.decDigits i).toArray⟩) ∧ w' = w := Any.strconv_Itoa_small Tryd.lays171 i hi w
def Tryd.laysC172_ren : Go.Shelf.Ren := ⟨fun | 172 => 29 | 244 => 33 | 245 => 34 | 247 => 37 | 279 => 38 | 280 => 39 | 281 => 40 | 282 => 41 | 287 => 43 | 316 => 44 | 171 => 32 | 205 => 45 | 321 => 50 | 322 => 51 | 243 => 36 | 246 => 42 | 283 => 46 | 284 => 47 | 285 => 48 | 286 => 49 | 129 => 53 | 317 => 52 | 318 => 54 | 319 => 55 | 320 => 56 | 337 => 57 | 338 => 58 | n => n, fun | 9 => 9 | 3 => 3 | 75 => 51 | 76 => 52 | 4 => 4 | 5 => 5 | 167 => 57 | 37 => 56 | 0 => 0 | 85 => 58 | 2 => 2 | 168 => 60 | 53 => 64 | 175 => 65 | 46 => 67 | 210 => 70 | 127 => 78 | 145 => 81 | 143 => 79 | 21 => 21 | 171 => 72 | 173 => 75 | 212 => 83 | 51 => 84 | 20 => 20 | 213 => 85 | 232 => 88 | 233 => 89 | 80 => 38 | n => n, fun | 15 => 1 | 16 => 2 | 17 => 3 | 18 => 4 | 19 => 5 | n => n⟩
theorem Tryd.laysC172 : Go.Proofs.LaysC.n172 Tryd.prog Tryd.laysC172_ren := {
  mixed := by kernel_rfl
  f129 := Tryd.func53.trans (congrArg some (by kernel_rfl))
  f171 := Tryd.func32.trans (congrArg some (by kernel_rfl))
  f172 := Tryd.func29.trans (congrArg some (by kernel_rfl))
  f205 := Tryd.func45.trans (congrArg some (by kernel_rfl))
  f243 := Tryd.func36.trans (congrArg some (by kernel_rfl))
  f244 := Tryd.func33.trans (congrArg some (by kernel_rfl))
  f245 := Tryd.func34.trans (congrArg some (by kernel_rfl))
  f246 := Tryd.func42.trans (congrArg some (by kernel_rfl))
  f247 := Tryd.func37.trans (congrArg some (by kernel_rfl))
  f279 := Tryd.func38.trans (congrArg some (by kernel_rfl))
  f280 := Tryd.func39.trans (congrArg some (by kernel_rfl))
  f281 := Tryd.func40.trans (congrArg some (by kernel_rfl))
  f282 := Tryd.func41.trans (congrArg some (by kernel_rfl))
  f283 := Tryd.func46.trans (congrArg some (by kernel_rfl))
  f284 := Tryd.func47.trans (congrArg some (by kernel_rfl))
  f285 := Tryd.func48.trans (congrArg some (by kernel_rfl))
  f286 := Tryd.func49.trans (congrArg some (by kernel_rfl))
  f287 := Tryd.func43.trans (congrArg some (by kernel_rfl))
  f316 := Tryd.func44.trans (congrArg some (by kernel_rfl))
  f317 := Tryd.func52.trans (congrArg some (by kernel_rfl))
  f318 := Tryd.func54.trans (congrArg some (by kernel_rfl))
  f319 := Tryd.func55.trans (congrArg some (by kernel_rfl))
  f320 := Tryd.func56.trans (congrArg some (by kernel_rfl))
  f321 := Tryd.func50.trans (congrArg some (by kernel_rfl))
  f322 := Tryd.func51.trans (congrArg some (by kernel_rfl))
  f337 := Tryd.func57.trans (congrArg some (by kernel_rfl))
  f338 := Tryd.func58.trans (congrArg some (by kernel_rfl))
  t0 := Tryd.underlying0
  a0 := Tryd.isAgg0
  z0 := Tryd.sizeOf0
  v0 := Tryd.zeroValue0
  t2 := Tryd.underlying2
  a2 := Tryd.isAgg2
  z2 := Tryd.sizeOf2
  v2 := Tryd.zeroValue2
  t3 := Tryd.underlying3
  a3 := Tryd.isAgg3
  z3 := Tryd.sizeOf3
  v3 := Tryd.zeroValue3
  t4 := Tryd.underlying4
  a4 := Tryd.isAgg4
  z4 := Tryd.sizeOf4
  v4 := Tryd.zeroValue4
  t5 := Tryd.underlying5
  a5 := Tryd.isAgg5
  z5 := Tryd.sizeOf5
  v5 := Tryd.zeroValue5
  t9 := Tryd.underlying9
  a9 := Tryd.isAgg9
  z9 := Tryd.sizeOf9
  v9 := Tryd.zeroValue9
  t20 := Tryd.underlying20
  a20 := Tryd.isAgg20
  z20 := Tryd.sizeOf20
  v20 := Tryd.zeroValue20
  t21 := Tryd.underlying21
  a21 := Tryd.isAgg21
  z21 := Tryd.sizeOf21
  v21 := Tryd.zeroValue21
  t37 := Tryd.underlying56
  a37 := Tryd.isAgg56
  z37 := Tryd.sizeOf56
  v37 := Tryd.zeroValue56
  t46 := Tryd.underlying67
  a46 := Tryd.isAgg67
  z46 := Tryd.sizeOf67
  v46 := Tryd.zeroValue67
  t51 := Tryd.underlying84
  a51 := Tryd.isAgg84
  z51 := Tryd.sizeOf84
  v51 := Tryd.zeroValue84
  t53 := Tryd.underlying64
  a53 := Tryd.isAgg64
  z53 := Tryd.sizeOf64
  v53 := Tryd.zeroValue64
  t75 := Tryd.underlying51
  a75 := Tryd.isAgg51
  z75 := Tryd.sizeOf51
  v75 := Tryd.zeroValue51
  t76 := Tryd.underlying52
  a76 := Tryd.isAgg52
  z76 := Tryd.sizeOf52
  v76 := Tryd.zeroValue52
  t85 := Tryd.underlying58
  a85 := Tryd.isAgg58
  z85 := Tryd.sizeOf58
  v85 := Tryd.zeroValue58
  t127 := Tryd.underlying78
  a127 := Tryd.isAgg78
  z127 := Tryd.sizeOf78
  v127 := Tryd.zeroValue78
  t143 := Tryd.underlying79
  a143 := Tryd.isAgg79
  z143 := Tryd.sizeOf79
  v143 := Tryd.zeroValue79
  t145 := Tryd.underlying81
  a145 := Tryd.isAgg81
  z145 := Tryd.sizeOf81
  v145 := Tryd.zeroValue81
  t167 := Tryd.underlying57
  a167 := Tryd.isAgg57
  z167 := Tryd.sizeOf57
  v167 := Tryd.zeroValue57
  t168 := Tryd.underlying60
  a168 := Tryd.isAgg60
  z168 := Tryd.sizeOf60
  v168 := Tryd.zeroValue60
  t171 := Tryd.underlying72
  a171 := Tryd.isAgg72
  z171 := Tryd.sizeOf72
  v171 := Tryd.zeroValue72
  t173 := Tryd.underlying75
  a173 := Tryd.isAgg75
  z173 := Tryd.sizeOf75
  v173 := Tryd.zeroValue75
  t175 := Tryd.underlying65
  a175 := Tryd.isAgg65
  z175 := Tryd.sizeOf65
  v175 := Tryd.zeroValue65
  t210 := Tryd.underlying70
  a210 := Tryd.isAgg70
  z210 := Tryd.sizeOf70
  v210 := Tryd.zeroValue70
  t212 := Tryd.underlying83
  a212 := Tryd.isAgg83
  z212 := Tryd.sizeOf83
  v212 := Tryd.zeroValue83
  t213 := Tryd.underlying85
  a213 := Tryd.isAgg85
  z213 := Tryd.sizeOf85
  t232 := Tryd.underlying88
  a232 := Tryd.isAgg88
  z232 := Tryd.sizeOf88
  v232 := Tryd.zeroValue88
  t233 := Tryd.underlying89
  a233 := Tryd.isAgg89
  z233 := Tryd.sizeOf89
  v233 := Tryd.zeroValue89
  g15 := by kernel_rfl
  g16 := by kernel_rfl
  g17 := by kernel_rfl
  g18 := by kernel_rfl
  g19 := by kernel_rfl
  t80 := Tryd.underlying38
  a80 := Tryd.isAgg38
  z80 := Tryd.sizeOf38
  v80 := Tryd.zeroValue38
  i0 := by kernel_rfl
  i2 := by kernel_rfl
  i3 := by kernel_rfl
  i4 := by kernel_rfl
  i5 := by kernel_rfl
  i9 := by kernel_rfl
  i20 := by kernel_rfl
  i21 := by kernel_rfl
  i37 := by kernel_rfl
  i46 := by kernel_rfl
  i51 := by kernel_rfl
  i53 := by kernel_rfl
  i75 := by kernel_rfl
  i76 := by kernel_rfl
  i80 := by kernel_rfl
  i85 := by kernel_rfl
  i127 := by kernel_rfl
  i143 := by kernel_rfl
  i145 := by kernel_rfl
  i167 := by kernel_rfl
  i168 := by kernel_rfl
  i171 := by kernel_rfl
  i173 := by kernel_rfl
  i175 := by kernel_rfl
  i210 := by kernel_rfl
  i212 := by kernel_rfl
  i232 := by kernel_rfl
  i233 := by kernel_rfl
  m15 := by kernel_rfl
  m16 := by kernel_rfl
  m17 := by kernel_rfl
  m18 := by kernel_rfl
  m19 := by kernel_rfl
  c0 := by kernel_rfl
  c2 := by kernel_rfl
  c3 := by kernel_rfl
  c4 := by kernel_rfl
  c5 := by kernel_rfl
  c9 := by kernel_rfl
  c20 := by kernel_rfl
  c21 := by kernel_rfl
  c37 := by kernel_rfl
  c46 := by kernel_rfl
  c51 := by kernel_rfl
  c53 := by kernel_rfl
  c75 := by kernel_rfl
  c76 := by kernel_rfl
  c80 := by kernel_rfl
  c85 := by kernel_rfl
  c127 := by kernel_rfl
  c143 := by kernel_rfl
  c145 := by kernel_rfl
  c167 := by kernel_rfl
  c168 := by kernel_rfl
  c171 := by kernel_rfl
  c173 := by kernel_rfl
  c175 := by kernel_rfl
  c210 := by kernel_rfl
  c212 := by kernel_rfl
  c213 := by kernel_rfl
  c232 := by kernel_rfl
  c233 := by kernel_rfl }
open Go.RowKit in
theorem Tryd.strconv_Atoi_ok (s : ByteArray) (hmax : s.size ≤ 9223372036854775806) (v : Int) (h : Lib.atoiAll s.data.toList = .ok v) (w : World) :
    Calls Tryd.prog 29 #[.string s] w fun e w' => e = .returned (.tuple #[.int .i64 v, .nilIface]) ∧ (w' = w ∨ ∃ t, w' = Lib.bytesWorld w 5 t) := Any.strconv_Atoi_ok Tryd.laysC172 s hmax v h w
end Go.Proofs
