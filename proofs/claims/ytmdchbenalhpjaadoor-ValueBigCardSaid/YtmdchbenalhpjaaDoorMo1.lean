/- Lemmas for the claims of this seat (own texts, packed; what the claims do not use is left out). No condition. -/
import Derived.Shelf.Small.Wraps
import Derived.Shelf.Strconv.Itoa0
import Derived.Shelf.Strconv.Itoa1
import Derived.Shelf.LaysM
import Derived.Shelf.Strconv.Itoa2
import Derived.Shelf.Strconv.Itoa3
import Derived.Shelf.Strconv.Itoa4
import Derived.Shelf.Strconv.ParseIntEmpty
import Derived.Shelf.Strconv.Clone
import Derived.Shelf.Strconv.SyntaxError
import Derived.Shelf.LaysC
import Derived.Shelf.Strconv.ToError
import Derived.Shelf.Strconv.Lower
import Derived.Shelf.Strconv.ParseUint10
import Derived.Shelf.Strconv.ParseUint10Empty
import Derived.Shelf.Strconv.ParseUint10Any
import Derived.Shelf.Strconv.ParseInt10
import Derived.Shelf.Strconv.RangeError
import Derived.Shelf.Strconv.ToErrorRange
import Derived.Shelf.Strconv.ParseUintEmpty
import Derived.Shelf.Strconv.ParseUint10b64
import Derived.Shelf.Strconv.ParseUint10b32
import Derived.Shelf.Strconv.ParseUint10b16
import Derived.Shelf.Strconv.ParseUint10b8
import Derived.Shelf.Strconv.ParseUint10At
import Derived.Shelf.Strconv.ParseInt10At64
import Derived.Shelf.Strconv.ParseInt10At32
import Derived.Shelf.Strconv.ParseInt10At16
import Derived.Shelf.Strconv.ParseInt10At8
import Derived.Shelf.Strconv.ParseInt10All
import Derived.Shelf.Strconv.ParseIntPublic10
import Derived.Shelf.Strconv.ErrVarParseInt
import Derived.Test.YtmdchbenalhpjaaDoorProg
import Derived.LaidLaws
import Derived.Laws.RangeAny
import Derived.LoopTactic
import Derived.Lib.AppendIntMem
import Derived.Lib.ParseIntBTie
import Derived.Lib.ParseIntBCases
import Derived.Deep.RegionHeld3
import Derived.Below
import Derived.Deep.Draws
import Derived.Deep.AppendLies
import Derived.Maps.AppendAt
import Derived.OwnWalk
import Derived.Laws.BytesArg
import Derived.Laws.MakeOwn
import Derived.Laws.OwnMore
import Derived.Deep.OwnRows
import Derived.Tactics
import Derived.Lib.ConvBytes
import Derived.Laws.Slices
import Derived.WalkKit
import Derived.KernelRfl
import Derived.RowKit3
import Derived.Deep.LoopGhost
import Derived.Deep.QuietTactic
import Derived.BigQuiet
import Derived.WideLaws
import Derived.Deep.DeepCutAuto
import Derived.Deep.CutBlock
import Derived.Laws.Rows
import Derived.Lib.AppendStr
import Derived.ArgAppend
import Derived.Laws.IdiomCopy
import Derived.OrdersHeld
import Derived.Laws.BitsLemmas
import Derived.RowKit
import Derived.Test.YtmdchbenalhpjaaDoorMo0
/-
  DERIVED: THE SHELF's CONTRACTS AT THIS DUMP, IN PLAIN WORDS (tools/lay-plain.mjs out of 'TrydShelf.lean', which tools/lay-shelf.mjs wrote): THE SAME DECLARATIONS UNDER THE SAME NAMES: 'import', 'namespace', 'open', 'def', 'theorem' AND NOTHING ELSE: no command of the shelf's: FOR A HAND-IN. Each laying: the table of numbers ('.._ren') and one theorem, a field a fact of the dump's own or the kernel's comparison; each contract: ONE APPLICATION.
-/
namespace Go.Proofs
open Go.Shelf
def Tryd.lays214_ren : Go.Shelf.Ren := ⟨fun | 214 => 46 | n => n, fun | 4 => 4 | 9 => 9 | n => n, fun | n => n⟩
def Tryd.lays121_ren : Go.Shelf.Ren := ⟨fun | 121 => 31 | 214 => 46 | n => n, fun | 4 => 4 | 9 => 9 | n => n, fun | n => n⟩
theorem Tryd.lays121 : Go.Proofs.Lays.n121 Tryd.prog Tryd.lays121_ren := {
  mixed := by kernel_rfl
  f121 := Tryd.func31.trans (congrArg some (by kernel_rfl))
  f214 := Tryd.func46.trans (congrArg some (by kernel_rfl))
  t4 := Tryd.underlying4
  a4 := Tryd.isAgg4
  z4 := Tryd.sizeOf4
  v4 := Tryd.zeroValue4
  t9 := Tryd.underlying9
  a9 := Tryd.isAgg9
  z9 := Tryd.sizeOf9
  v9 := Tryd.zeroValue9 }
open Go.RowKit in
/-- strconv.FormatBool: "FormatBool returns "true" or "false" according to the value of b.": IT RETURNS 'Lib.formatBool b'; the world is as it was. (LAID: no walk: one application.) -/
theorem Tryd.strconv_FormatBool (b : Bool) (w : World) :
    Calls Tryd.prog 31 #[.bool b] w fun e w' => e = .returned (.string ⟨(Lib.formatBool b).toArray⟩) ∧ w' = w := Any.strconv_FormatBool Tryd.lays121 b w
def Tryd.laysM246_ren : Go.Shelf.Ren := ⟨fun | 246 => 47 | 283 => 52 | 284 => 53 | 285 => 54 | 286 => 55 | 129 => 64 | 317 => 63 | 318 => 65 | 319 => 66 | 320 => 67 | 337 => 73 | 338 => 74 | n => n, fun | 2 => 2 | 3 => 3 | 9 => 9 | 4 => 4 | 171 => 58 | 0 => 0 | 53 => 54 | 37 => 35 | 5 => 5 | 173 => 61 | 212 => 72 | 51 => 73 | 20 => 20 | 213 => 74 | 46 => 66 | 232 => 86 | 233 => 87 | n => n, fun | 17 => 0 | 18 => 3 | 19 => 4 | n => n⟩
def Tryd.laysM173_ren : Go.Shelf.Ren := ⟨fun | 173 => 32 | 246 => 47 | 283 => 52 | 284 => 53 | 285 => 54 | 286 => 55 | 129 => 64 | 317 => 63 | 318 => 65 | 319 => 66 | 320 => 67 | 337 => 73 | 338 => 74 | n => n, fun | 2 => 2 | 3 => 3 | 9 => 9 | 4 => 4 | 171 => 58 | 0 => 0 | 53 => 54 | 37 => 35 | 5 => 5 | 173 => 61 | 212 => 72 | 51 => 73 | 20 => 20 | 213 => 74 | 46 => 66 | 232 => 86 | 233 => 87 | n => n, fun | 17 => 0 | 18 => 3 | 19 => 4 | n => n⟩
theorem Tryd.laysM173 : Go.Proofs.LaysM.n173 Tryd.prog Tryd.laysM173_ren := {
  mixed := by kernel_rfl
  f129 := Tryd.func64.trans (congrArg some (by kernel_rfl))
  f173 := Tryd.func32.trans (congrArg some (by kernel_rfl))
  f246 := Tryd.func47.trans (congrArg some (by kernel_rfl))
  f283 := Tryd.func52.trans (congrArg some (by kernel_rfl))
  f284 := Tryd.func53.trans (congrArg some (by kernel_rfl))
  f285 := Tryd.func54.trans (congrArg some (by kernel_rfl))
  f286 := Tryd.func55.trans (congrArg some (by kernel_rfl))
  f317 := Tryd.func63.trans (congrArg some (by kernel_rfl))
  f318 := Tryd.func65.trans (congrArg some (by kernel_rfl))
  f319 := Tryd.func66.trans (congrArg some (by kernel_rfl))
  f320 := Tryd.func67.trans (congrArg some (by kernel_rfl))
  f337 := Tryd.func73.trans (congrArg some (by kernel_rfl))
  f338 := Tryd.func74.trans (congrArg some (by kernel_rfl))
  t0 := Tryd.underlying0
  a0 := Tryd.isAgg0
  z0 := Tryd.sizeOf0
  v0 := Tryd.zeroValue0
  t2 := Tryd.underlying2
  a2 := Tryd.isAgg2
  z2 := Tryd.sizeOf2
  v2 := Tryd.zeroValue2
  t3 := Tryd.underlying3
  a3 := Tryd.isAgg3
  z3 := Tryd.sizeOf3
  v3 := Tryd.zeroValue3
  t4 := Tryd.underlying4
  a4 := Tryd.isAgg4
  z4 := Tryd.sizeOf4
  v4 := Tryd.zeroValue4
  t5 := Tryd.underlying5
  a5 := Tryd.isAgg5
  z5 := Tryd.sizeOf5
  v5 := Tryd.zeroValue5
  t9 := Tryd.underlying9
  a9 := Tryd.isAgg9
  z9 := Tryd.sizeOf9
  v9 := Tryd.zeroValue9
  t20 := Tryd.underlying20
  a20 := Tryd.isAgg20
  z20 := Tryd.sizeOf20
  v20 := Tryd.zeroValue20
  t37 := Tryd.underlying35
  a37 := Tryd.isAgg35
  z37 := Tryd.sizeOf35
  v37 := Tryd.zeroValue35
  t46 := Tryd.underlying66
  a46 := Tryd.isAgg66
  z46 := Tryd.sizeOf66
  v46 := Tryd.zeroValue66
  t51 := Tryd.underlying73
  a51 := Tryd.isAgg73
  z51 := Tryd.sizeOf73
  v51 := Tryd.zeroValue73
  t53 := Tryd.underlying54
  a53 := Tryd.isAgg54
  z53 := Tryd.sizeOf54
  v53 := Tryd.zeroValue54
  t171 := Tryd.underlying58
  a171 := Tryd.isAgg58
  z171 := Tryd.sizeOf58
  v171 := Tryd.zeroValue58
  t173 := Tryd.underlying61
  a173 := Tryd.isAgg61
  z173 := Tryd.sizeOf61
  v173 := Tryd.zeroValue61
  t212 := Tryd.underlying72
  a212 := Tryd.isAgg72
  z212 := Tryd.sizeOf72
  v212 := Tryd.zeroValue72
  t213 := Tryd.underlying74
  a213 := Tryd.isAgg74
  z213 := Tryd.sizeOf74
  t232 := Tryd.underlying86
  a232 := Tryd.isAgg86
  z232 := Tryd.sizeOf86
  v232 := Tryd.zeroValue86
  t233 := Tryd.underlying87
  a233 := Tryd.isAgg87
  z233 := Tryd.sizeOf87
  v233 := Tryd.zeroValue87
  g17 := by kernel_rfl
  g18 := by kernel_rfl
  g19 := by kernel_rfl
  i0 := by kernel_rfl
  i2 := by kernel_rfl
  i3 := by kernel_rfl
  i4 := by kernel_rfl
  i5 := by kernel_rfl
  i9 := by kernel_rfl
  i20 := by kernel_rfl
  i37 := by kernel_rfl
  i46 := by kernel_rfl
  i51 := by kernel_rfl
  i53 := by kernel_rfl
  i171 := by kernel_rfl
  i173 := by kernel_rfl
  i212 := by kernel_rfl
  i232 := by kernel_rfl
  i233 := by kernel_rfl
  m17 := by kernel_rfl
  m18 := by kernel_rfl
  m19 := by kernel_rfl }
open Go.RowKit Go.Sort Go.Lib in
/-- strconv.FormatInt: "FormatInt returns the string representation of i in the given base": AT BASE 10: i's decimal numeral, for every int64. (LAID: no walk: one application.) -/
theorem Tryd.strconv_FormatInt_10 (n : Int) (h0 : -9223372036854775808 ≤ n) (h1 : n ≤ 9223372036854775807) (w : World) (htab : Lib.TabIs Tryd.prog w "internal/strconv.uint64pow10" .u64 Lib.pow10Tab) :
    Calls Tryd.prog 32 #[.int .i64 n, .int .i64 10] w fun e w' => e = .returned (.string ⟨(Lib.itoa n).toArray⟩) ∧ ∃ k os, w' = grow (w.drewN k) os := Any.strconv_FormatInt_10 Tryd.laysM173 n h0 h1 w htab
def Tryd.laysC245_ren : Go.Shelf.Ren := ⟨fun | 245 => 49 | 279 => 57 | 280 => 58 | 281 => 59 | 282 => 60 | 316 => 70 | 171 => 72 | 205 => 71 | 243 => 75 | 246 => 47 | 283 => 52 | 284 => 53 | 285 => 54 | 286 => 55 | 129 => 64 | 317 => 63 | 318 => 65 | 319 => 66 | 320 => 67 | 337 => 73 | 338 => 74 | n => n, fun | 9 => 9 | 3 => 3 | 75 => 49 | 167 => 63 | 4 => 4 | 168 => 67 | 210 => 79 | 37 => 35 | 0 => 0 | 127 => 82 | 145 => 85 | 143 => 83 | 2 => 2 | 171 => 58 | 53 => 54 | 5 => 5 | 173 => 61 | 212 => 72 | 51 => 73 | 20 => 20 | 213 => 74 | 46 => 66 | 232 => 86 | 233 => 87 | 80 => 88 | n => n, fun | 15 => 1 | 16 => 2 | 17 => 0 | 18 => 3 | 19 => 4 | n => n⟩
def Tryd.laysC174_ren : Go.Shelf.Ren := ⟨fun | 174 => 34 | 247 => 48 | 245 => 49 | 287 => 56 | 279 => 57 | 280 => 58 | 281 => 59 | 282 => 60 | 321 => 68 | 322 => 69 | 316 => 70 | 171 => 72 | 205 => 71 | 243 => 75 | 246 => 47 | 283 => 52 | 284 => 53 | 285 => 54 | 286 => 55 | 129 => 64 | 317 => 63 | 318 => 65 | 319 => 66 | 320 => 67 | 337 => 73 | 338 => 74 | n => n, fun | 9 => 9 | 3 => 3 | 2 => 2 | 75 => 49 | 85 => 50 | 4 => 4 | 167 => 63 | 5 => 5 | 53 => 54 | 175 => 64 | 46 => 66 | 168 => 67 | 37 => 35 | 0 => 0 | 210 => 79 | 21 => 21 | 127 => 82 | 145 => 85 | 143 => 83 | 171 => 58 | 173 => 61 | 212 => 72 | 51 => 73 | 20 => 20 | 213 => 74 | 232 => 86 | 233 => 87 | 80 => 88 | n => n, fun | 15 => 1 | 16 => 2 | 17 => 0 | 18 => 3 | 19 => 4 | n => n⟩
theorem Tryd.laysC174 : Go.Proofs.LaysC.n174 Tryd.prog Tryd.laysC174_ren := {
  mixed := by kernel_rfl
  f129 := Tryd.func64.trans (congrArg some (by kernel_rfl))
  f171 := Tryd.func72.trans (congrArg some (by kernel_rfl))
  f174 := Tryd.func34.trans (congrArg some (by kernel_rfl))
  f205 := Tryd.func71.trans (congrArg some (by kernel_rfl))
  f243 := Tryd.func75.trans (congrArg some (by kernel_rfl))
  f245 := Tryd.func49.trans (congrArg some (by kernel_rfl))
  f246 := Tryd.func47.trans (congrArg some (by kernel_rfl))
  f247 := Tryd.func48.trans (congrArg some (by kernel_rfl))
  f279 := Tryd.func57.trans (congrArg some (by kernel_rfl))
  f280 := Tryd.func58.trans (congrArg some (by kernel_rfl))
  f281 := Tryd.func59.trans (congrArg some (by kernel_rfl))
  f282 := Tryd.func60.trans (congrArg some (by kernel_rfl))
  f283 := Tryd.func52.trans (congrArg some (by kernel_rfl))
  f284 := Tryd.func53.trans (congrArg some (by kernel_rfl))
  f285 := Tryd.func54.trans (congrArg some (by kernel_rfl))
  f286 := Tryd.func55.trans (congrArg some (by kernel_rfl))
  f287 := Tryd.func56.trans (congrArg some (by kernel_rfl))
  f316 := Tryd.func70.trans (congrArg some (by kernel_rfl))
  f317 := Tryd.func63.trans (congrArg some (by kernel_rfl))
  f318 := Tryd.func65.trans (congrArg some (by kernel_rfl))
  f319 := Tryd.func66.trans (congrArg some (by kernel_rfl))
  f320 := Tryd.func67.trans (congrArg some (by kernel_rfl))
  f321 := Tryd.func68.trans (congrArg some (by kernel_rfl))
  f322 := Tryd.func69.trans (congrArg some (by kernel_rfl))
  f337 := Tryd.func73.trans (congrArg some (by kernel_rfl))
  f338 := Tryd.func74.trans (congrArg some (by kernel_rfl))
  t0 := Tryd.underlying0
  a0 := Tryd.isAgg0
  z0 := Tryd.sizeOf0
  v0 := Tryd.zeroValue0
  t2 := Tryd.underlying2
  a2 := Tryd.isAgg2
  z2 := Tryd.sizeOf2
  v2 := Tryd.zeroValue2
  t3 := Tryd.underlying3
  a3 := Tryd.isAgg3
  z3 := Tryd.sizeOf3
  v3 := Tryd.zeroValue3
  t4 := Tryd.underlying4
  a4 := Tryd.isAgg4
  z4 := Tryd.sizeOf4
  v4 := Tryd.zeroValue4
  t5 := Tryd.underlying5
  a5 := Tryd.isAgg5
  z5 := Tryd.sizeOf5
  v5 := Tryd.zeroValue5
  t9 := Tryd.underlying9
  a9 := Tryd.isAgg9
  z9 := Tryd.sizeOf9
  v9 := Tryd.zeroValue9
  t20 := Tryd.underlying20
  a20 := Tryd.isAgg20
  z20 := Tryd.sizeOf20
  v20 := Tryd.zeroValue20
  t21 := Tryd.underlying21
  a21 := Tryd.isAgg21
  z21 := Tryd.sizeOf21
  v21 := Tryd.zeroValue21
  t37 := Tryd.underlying35
  a37 := Tryd.isAgg35
  z37 := Tryd.sizeOf35
  v37 := Tryd.zeroValue35
  t46 := Tryd.underlying66
  a46 := Tryd.isAgg66
  z46 := Tryd.sizeOf66
  v46 := Tryd.zeroValue66
  t51 := Tryd.underlying73
  a51 := Tryd.isAgg73
  z51 := Tryd.sizeOf73
  v51 := Tryd.zeroValue73
  t53 := Tryd.underlying54
  a53 := Tryd.isAgg54
  z53 := Tryd.sizeOf54
  v53 := Tryd.zeroValue54
  t75 := Tryd.underlying49
  a75 := Tryd.isAgg49
  z75 := Tryd.sizeOf49
  v75 := Tryd.zeroValue49
  t85 := Tryd.underlying50
  a85 := Tryd.isAgg50
  z85 := Tryd.sizeOf50
  v85 := Tryd.zeroValue50
  t127 := Tryd.underlying82
  a127 := Tryd.isAgg82
  z127 := Tryd.sizeOf82
  v127 := Tryd.zeroValue82
  t143 := Tryd.underlying83
  a143 := Tryd.isAgg83
  z143 := Tryd.sizeOf83
  v143 := Tryd.zeroValue83
  t145 := Tryd.underlying85
  a145 := Tryd.isAgg85
  z145 := Tryd.sizeOf85
  v145 := Tryd.zeroValue85
  t167 := Tryd.underlying63
  a167 := Tryd.isAgg63
  z167 := Tryd.sizeOf63
  v167 := Tryd.zeroValue63
  t168 := Tryd.underlying67
  a168 := Tryd.isAgg67
  z168 := Tryd.sizeOf67
  v168 := Tryd.zeroValue67
  t171 := Tryd.underlying58
  a171 := Tryd.isAgg58
  z171 := Tryd.sizeOf58
  v171 := Tryd.zeroValue58
  t173 := Tryd.underlying61
  a173 := Tryd.isAgg61
  z173 := Tryd.sizeOf61
  v173 := Tryd.zeroValue61
  t175 := Tryd.underlying64
  a175 := Tryd.isAgg64
  z175 := Tryd.sizeOf64
  v175 := Tryd.zeroValue64
  t210 := Tryd.underlying79
  a210 := Tryd.isAgg79
  z210 := Tryd.sizeOf79
  v210 := Tryd.zeroValue79
  t212 := Tryd.underlying72
  a212 := Tryd.isAgg72
  z212 := Tryd.sizeOf72
  v212 := Tryd.zeroValue72
  t213 := Tryd.underlying74
  a213 := Tryd.isAgg74
  z213 := Tryd.sizeOf74
  t232 := Tryd.underlying86
  a232 := Tryd.isAgg86
  z232 := Tryd.sizeOf86
  v232 := Tryd.zeroValue86
  t233 := Tryd.underlying87
  a233 := Tryd.isAgg87
  z233 := Tryd.sizeOf87
  v233 := Tryd.zeroValue87
  g15 := by kernel_rfl
  g16 := by kernel_rfl
  g17 := by kernel_rfl
  g18 := by kernel_rfl
  g19 := by kernel_rfl
  t80 := Tryd.underlying88
  a80 := Tryd.isAgg88
  z80 := Tryd.sizeOf88
  v80 := Tryd.zeroValue88
  i0 := by kernel_rfl
  i2 := by kernel_rfl
  i3 := by kernel_rfl
  i4 := by kernel_rfl
  i5 := by kernel_rfl
  i9 := by kernel_rfl
  i20 := by kernel_rfl
  i21 := by kernel_rfl
  i37 := by kernel_rfl
  i46 := by kernel_rfl
  i51 := by kernel_rfl
  i53 := by kernel_rfl
  i75 := by kernel_rfl
  i80 := by kernel_rfl
  i85 := by kernel_rfl
  i127 := by kernel_rfl
  i143 := by kernel_rfl
  i145 := by kernel_rfl
  i167 := by kernel_rfl
  i168 := by kernel_rfl
  i171 := by kernel_rfl
  i173 := by kernel_rfl
  i175 := by kernel_rfl
  i210 := by kernel_rfl
  i212 := by kernel_rfl
  i232 := by kernel_rfl
  i233 := by kernel_rfl
  m15 := by kernel_rfl
  m16 := by kernel_rfl
  m17 := by kernel_rfl
  m18 := by kernel_rfl
  m19 := by kernel_rfl
  c0 := by kernel_rfl
  c2 := by kernel_rfl
  c3 := by kernel_rfl
  c4 := by kernel_rfl
  c5 := by kernel_rfl
  c9 := by kernel_rfl
  c20 := by kernel_rfl
  c21 := by kernel_rfl
  c37 := by kernel_rfl
  c46 := by kernel_rfl
  c51 := by kernel_rfl
  c53 := by kernel_rfl
  c75 := by kernel_rfl
  c80 := by kernel_rfl
  c85 := by kernel_rfl
  c127 := by kernel_rfl
  c143 := by kernel_rfl
  c145 := by kernel_rfl
  c167 := by kernel_rfl
  c168 := by kernel_rfl
  c171 := by kernel_rfl
  c173 := by kernel_rfl
  c175 := by kernel_rfl
  c210 := by kernel_rfl
  c212 := by kernel_rfl
  c213 := by kernel_rfl
  c232 := by kernel_rfl
  c233 := by kernel_rfl }
open Go.RowKit in
/-- strconv.ParseInt(s, 10, 64), AT EVERY STRING THAT SPELLS AN int64 ('Lib.parseIntB 64 s.data.toList = .ok v'): v, AND NO ERROR. (LAID: no walk: one application.) -/
theorem Tryd.strconv_ParseInt_10_at64_ok (s : ByteArray) (hmax : s.size ≤ 9223372036854775806) (v : Int) (h : Lib.parseIntB 64 s.data.toList = .ok v) (w : World) :
    Calls Tryd.prog 34 #[.string s, .int .i64 10, .int .i64 64] w fun e w' => e = .returned (.tuple #[.int .i64 v, .nilIface]) ∧ (w' = w ∨ ∃ t, w' = Lib.bytesWorld w 5 t) := Any.strconv_ParseInt_10_at64_ok Tryd.laysC174 s hmax v h w
open Go.RowKit in
theorem Tryd.strconv_ParseInt_10_at64_syntax_var (s : ByteArray) (hlim : s.size ≤ 281474976710656) (h : Lib.parseIntB 64 s.data.toList = Lib.parseIntB 64 []) (tp : TypeId) (p : Value) (w : World) (hvar : w.var? Tryd.prog "strconv.ErrSyntax" = some #[.iface tp p]) :
    Calls Tryd.prog 34 #[.string s, .int .i64 10, .int .i64 64] w fun e w' => ∃ N, e = .returned (.tuple #[.int .i64 (0), .iface 67 (.pointer (some ⟨N, 0, none⟩))]) ∧ w.heap.size ≤ N ∧ w'.heap[N]? = some (.cells #[.string ⟨#[80, 97, 114, 115, 101, 73, 110, 116]⟩, .string s, .iface tp p] 79 (0, 0)) ∧ Below w.heap.size w w' := Any.strconv_ParseInt_10_at64_syntax_var Tryd.laysC174 s hlim h tp p w hvar
open Go.RowKit in
theorem Tryd.strconv_ParseInt_10_at64_range_var (s : ByteArray) (hlim : s.size ≤ 281474976710656) (h : Lib.parseIntB 64 s.data.toList = .range) (tp : TypeId) (p : Value) (w : World) (hvar : w.var? Tryd.prog "strconv.ErrRange" = some #[.iface tp p]) :
    Calls Tryd.prog 34 #[.string s, .int .i64 10, .int .i64 64] w fun e w' => ∃ N, e = .returned (.tuple #[.int .i64 (Lib.intSat 64 s.data.toList), .iface 67 (.pointer (some ⟨N, 0, none⟩))]) ∧ w.heap.size ≤ N ∧ w'.heap[N]? = some (.cells #[.string ⟨#[80, 97, 114, 115, 101, 73, 110, 116]⟩, .string s, .iface tp p] 79 (0, 0)) ∧ Below w.heap.size w w' := Any.strconv_ParseInt_10_at64_range_var Tryd.laysC174 s hlim h tp p w hvar
end Go.Proofs

/- What the library's variables hold; strconv.FormatInt, FormatBool; value.isDigits. No condition. -/
namespace Go.Proofs.YtmdchbenalhpjaaDoor.Va
open Go.RowKit Go.Proofs.YtmdchbenalhpjaaDoorW.PrintWords Go.Proofs.YtmdchbenalhpjaaDoorW.PrintLast Go.Proofs.YtmdchbenalhpjaaDoorW.PrintMore
set_option linter.unusedVariables false
set_option linter.unusedSimpArgs false
structure Laid (w : World) : Prop where
  pow : Lib.TabIs Tryd.prog w "internal/strconv.uint64pow10" .u64 Lib.pow10Tab
  syn : ∃ tp p, w.var? Tryd.prog "strconv.ErrSyntax" = some #[.iface tp p]
  rng : ∃ tp p, w.var? Tryd.prog "strconv.ErrRange" = some #[.iface tp p]
theorem var_below {P : Program} {w w' : World} (hb : Below w.heap.size w w') {n : String} {cs : Array Value} (h : w.var? P n = some cs) : w'.var? P n = some cs := by
  unfold World.var? at h ⊢
  cases hg : P.globalNamed n with
  | none => rw [hg] at h; cases h
  | some g =>
    rw [hg] at h
    simp only [Option.bind_some] at h ⊢
    cases ho : w.heap[g]? with
    | none => rw [ho] at h; cases h
    | some o => rw [hb.block g (Array.getElem?_eq_some_iff.1 ho).1]; exact h
theorem Laid.below {w w' : World} (h : Laid w) (hb : Below w.heap.size w w') : Laid w' := by
  obtain ⟨tp, p, hs⟩ := h.syn
  obtain ⟨tq, q, hr⟩ := h.rng
  exact ⟨var_below hb h.pow, ⟨tp, p, var_below hb hs⟩, ⟨tq, q, var_below hb hr⟩⟩
def strconv_FormatInt.f (n b : Int) : Option ByteArray := if b = 10 ∧ -9223372036854775808 ≤ n ∧ n ≤ 9223372036854775807 then some ⟨(Lib.itoa n).toArray⟩ else none
theorem strconv_FormatInt.calls (a0 a1 : Int) (r : ByteArray) (w : World) (hL : Laid w) (h : strconv_FormatInt.f a0 a1 = some r) :
    Calls Tryd.prog 32 #[.int .i64 a0, .int .i64 a1] w fun e w' => e = .returned (.string r) ∧ Below w.heap.size w w' := by
  unfold strconv_FormatInt.f at h
  by_cases hc : a1 = 10 ∧ -9223372036854775808 ≤ a0 ∧ a0 ≤ 9223372036854775807
  · rw [if_pos hc] at h
    obtain rfl := Option.some.inj h
    obtain ⟨rfl, h1, h2⟩ := hc
    refine (Tryd.strconv_FormatInt_10 a0 h1 h2 w hL.pow).mono ?_
    rintro e w' ⟨rfl, k, os, rfl⟩
    exact ⟨rfl, Lib.below_grow _ _ (Nat.le_refl _) _ _⟩
  · rw [if_neg hc] at h
    cases h
def strconv_FormatBool.f (b : Bool) : Option ByteArray := some ⟨(Lib.formatBool b).toArray⟩
theorem strconv_FormatBool.calls (a0 : Bool) (r : ByteArray) (w : World) (h : strconv_FormatBool.f a0 = some r) :
    Calls Tryd.prog 31 #[.bool a0] w fun e w' => e = .returned (.string r) ∧ Drawn0 w w' := by
  obtain rfl := Option.some.inj h
  refine (Tryd.strconv_FormatBool a0 w).mono ?_
  rintro e w' ⟨rfl, rfl⟩
  exact ⟨rfl, Drawn0.refl _⟩
def okDig (s : ByteArray) (j : Nat) : Prop := (48 ≤ (s[j]?.getD 0).toNat ∧ (s[j]?.getD 0).toNat ≤ 57) ∨ (j = 0 ∧ (s[j]?.getD 0).toNat = 45)
instance (s : ByteArray) (j : Nat) : Decidable (okDig s j) := inferInstanceAs (Decidable (_ ∨ _))
def DigOk (s : ByteArray) : Prop := 0 < s.size ∧ ∀ j, j < s.size → okDig s j
instance (s : ByteArray) : Decidable (DigOk s) := inferInstanceAs (Decidable (_ ∧ _))
def digB (s : ByteArray) : Bool := decide (DigOk s)
theorem getD_byte (s : ByteArray) (j : Nat) (h : j < s.size) : s[j]?.getD 0 = s[j] := by rw [getElem?_pos s j h]; rfl
theorem nonempty_dec (s : ByteArray) : (!s.toList.isEmpty) = decide (0 < s.size) := by
  have : s.toList.length = s.size := by rw [ByteArray.toList_eq]; rfl
  cases h : s.toList with
  | nil => rw [h] at this; simp at this; simp [← this]
  | cons a r => rw [h] at this; simp at this; simp; omega
theorem digB_true (s : ByteArray) (h0 : 0 < s.size) (h : ∀ j, j < s.size → okDig s j) : digB s = true := decide_eq_true ⟨h0, h⟩
theorem digB_false (s : ByteArray) (j : Nat) (hj : j < s.size) (h : ¬ okDig s j) : digB s = false := decide_eq_false fun hd => h (hd.2 j hj)
theorem rune_dig (s : ByteArray) (pos : Nat) (h : pos < s.size) : (okDig s pos ↔ ((48 ≤ (Utf8.decode s pos).1 ∧ (Utf8.decode s pos).1 ≤ 57) ∨ (pos = 0 ∧ (Utf8.decode s pos).1 = 45))) ∧ (okDig s pos → (Utf8.decode s pos).2 = 1) ∧ 1 ≤ (Utf8.decode s pos).2 := by
  unfold okDig
  rw [getD_byte s pos h]
  by_cases ha : (s[pos]'h).toNat < 128
  · have hd := decode_ascii s pos h ha
    rw [hd]
    exact ⟨Iff.rfl, fun _ => rfl, Nat.le_refl _⟩
  · have hd := decode_high s pos h (by omega)
    refine ⟨by omega, by omega, hd.2⟩
set_option maxHeartbeats 2000000 in
set_option maxRecDepth 100000 in
theorem isDigits_calls (s : ByteArray) (w : World) (hs : s.size ≤ 9223372036854775807) :
    Calls Tryd.prog 33 #[.string s] w fun e w' => e = .returned (.bool (digB s)) ∧ Below w.heap.size w w' := by
  go_enter Tryd.func33, Tryd.ntmps33
  go_wp2
  refine wp_scope_straight ?_
  go_wp2
  refine wp_label ?_
  rename_i Q' K hK
  refine hK _ _ ?_
  clear hK
  rw [nonempty_dec]
  go_wp2
  go_loopw [3] (fun v w' => ∃ pos, w' = w.iter s pos ∧ v = .bool (decide (0 < s.size)) ∧ ∀ j, j < pos → j < s.size → okDig s j) (fun _ w' => s.size - w'.iterPos w.heap.size)
  case atStart => exact ⟨0, rfl, rfl, fun j hj => by omega⟩
  case round =>
    obtain ⟨pos, rfl, rfl, hok⟩ := hrel
    have HOK := Aside0.mk hok
    clear hok
    by_cases hp : pos < s.size
    · have hnx : ∀ ty, (Instr.next (.pointer (some ⟨w.heap.size, 0, none⟩)) true ty).run Tryd.prog (w.iter s pos) = _ := fun ty => run_next_any w s pos ty hp
      obtain ⟨hr1, hr2, hr3⟩ := rune_dig s pos hp
      have HR1 := Aside0.mk hr1
      have HR2 := Aside0.mk hr2
      have HR3 := Aside0.mk hr3
      clear hr1 hr2 hr3
      generalize (Utf8.decode s pos).1 = c at *
      generalize (Utf8.decode s pos).2 = wd at *
      have hgood : okDig s pos → wd = 1 ∧ ∀ j, j < pos + 1 → j < s.size → okDig s j := fun h => ⟨HR2.out h, fun j hj hjs => if e : j = pos then e ▸ h else HOK.out j (by omega) hjs⟩
      have HG := Aside0.mk hgood
      clear hgood
      have hpc : (pos : Int) > 0 ∨ pos = 0 := by omega
      by_cases hc : c = 45
      · have hb : ((c : Int) != 45) = false := by subst hc; rfl
        rcases hpc with h2 | rfl
        · go_wp2
          all_goals try ((first | go_ret | (rw [Exit.noGoto_ret]; go_ret)); exact ⟨by rw [digB_false s pos hp (fun h => by have := HR1.out.1 h; omega)]; rfl, (Below.refl _ _).alloc (Nat.le_refl _) _⟩)
          all_goals (
            obtain ⟨rfl, hg⟩ := HG.out (HR1.out.2 (.inl (by omega)))
            go_roundw
            case rel => first | exact ⟨_, rfl, rfl, hg⟩ | exact ⟨_, rfl, hg⟩ | exact hg
            case measure => first | (simp; omega) | omega)
        · obtain ⟨rfl, hg⟩ := HG.out (HR1.out.2 (.inr ⟨rfl, hc⟩))
          have HN := Aside0.mk hg
          clear hg
          go_wp2
          all_goals (
            go_roundw
            case rel => first | exact ⟨_, rfl, rfl, HN.out⟩ | exact HN.out
            case measure => first | (simp; omega) | omega)
      · have hb : ((c : Int) != 45) = true := by simp; omega
        rcases hpc with h2 | rfl
        · go_wp2
          all_goals try ((first | go_ret | (rw [Exit.noGoto_ret]; go_ret)); exact ⟨by rw [digB_false s pos hp (fun h => by have := HR1.out.1 h; omega)]; rfl, (Below.refl _ _).alloc (Nat.le_refl _) _⟩)
          all_goals (
            obtain ⟨rfl, hg⟩ := HG.out (HR1.out.2 (.inl (by omega)))
            go_roundw
            case rel => first | exact ⟨_, rfl, rfl, hg⟩ | exact ⟨_, rfl, hg⟩ | exact hg
            case measure => first | (simp; omega) | omega)
        · go_wp2
          all_goals try ((first | go_ret | (rw [Exit.noGoto_ret]; go_ret)); exact ⟨by rw [digB_false s 0 hp (fun h => by have := HR1.out.1 h; omega)]; rfl, (Below.refl _ _).alloc (Nat.le_refl _) _⟩)
          all_goals (
            obtain ⟨rfl, hg⟩ := HG.out (HR1.out.2 (.inl (by omega)))
            go_roundw
            case rel => first | exact ⟨_, rfl, rfl, hg⟩ | exact ⟨_, rfl, hg⟩ | exact hg
            case measure => first | (simp; omega) | omega)
    · have hnx : ∀ ty, (Instr.next (.pointer (some ⟨w.heap.size, 0, none⟩)) true ty).run Tryd.prog (w.iter s pos) = _ := fun ty => run_next_end w s pos ty hp
      have HP := Aside0.mk hp
      go_wp2
      (first | go_ret | (rw [Exit.noGoto_ret]; go_ret))
      refine ⟨?_, (Below.refl _ _).alloc (Nat.le_refl _) _⟩
      congr 2
      by_cases h0 : 0 < s.size
      · rw [digB_true s h0 (fun j hj => HOK.out j (by have := HP.out; omega) hj)]; simp [h0]
      · rw [show digB s = false from decide_eq_false (fun h => h0 h.1)]; exact congrArg Value.bool (decide_eq_false h0)
end Go.Proofs.YtmdchbenalhpjaaDoor.Va

/- Numerals; value.Num. No condition. -/
namespace Go.Proofs.YtmdchbenalhpjaaDoor.Va
open Go.RowKit Go.Proofs.YtmdchbenalhpjaaDoorW.PrintWords Go.Proofs.YtmdchbenalhpjaaDoorW.PrintLast Go.Proofs.YtmdchbenalhpjaaDoorW.PrintMore
set_option linter.unusedVariables false
set_option linter.unusedSimpArgs false
def I64 (n : Int) : Prop := -9223372036854775808 ≤ n ∧ n ≤ 9223372036854775807
theorem i64_of_wf {n : Int} (h : (Lit.int .i64 n).wf = true) : I64 n := by
  simp [Lit.wf, IntKind.min, IntKind.max, IntKind.bits, IntKind.signed] at h
  exact ⟨by omega, by omega⟩
def numL (l : List UInt8) : Int := match Lib.parseIntB 64 l with
  | .ok v => if Lib.itoa v = l then v else 0
  | _ => 0
theorem byte_toNat (k : Nat) (h : k < 256) : (UInt8.ofNat k).toNat = k := by simp; omega
theorem parse_dec (u : Nat) : ∀ rest, u < 18446744073709551616 → Lib.parseUintM 18446744073709551615 0 (Lib.decDigits u ++ rest) = Lib.parseUintM 18446744073709551615 u rest := by
  induction u using Nat.strongRecOn with
  | _ u ih =>
    intro rest hu
    rw [Lib.decDigits]
    by_cases h : u < 10
    · rw [dif_pos h, List.singleton_append, Lib.parseUintM, byte_toNat _ (by omega), if_pos (by omega), if_neg (by omega), if_neg (by omega)]
      congr 1
      omega
    · rw [dif_neg h, List.append_assoc, ih (u / 10) (by omega) _ (by omega), List.singleton_append, Lib.parseUintM, byte_toNat _ (by omega), if_pos (by omega), if_neg (by omega), if_neg (by omega)]
      congr 1
      omega
theorem dec_ne (u : Nat) : Lib.decDigits u ≠ [] := by
  intro h
  have := Lib.decDigits_length u
  rw [h] at this
  have := Lib.nDigits_pos u
  simp at *
  omega
theorem dec_digit (u : Nat) : ∀ c ∈ Lib.decDigits u, 48 ≤ c.toNat ∧ c.toNat ≤ 57 := by
  induction u using Nat.strongRecOn with
  | _ u ih =>
    intro c hc
    rw [Lib.decDigits] at hc
    by_cases h : u < 10
    · rw [dif_pos h] at hc
      obtain rfl := List.mem_singleton.1 hc
      rw [byte_toNat _ (by omega)]
      omega
    · rw [dif_neg h, List.mem_append] at hc
      rcases hc with hc | hc
      · exact ih _ (by omega) c hc
      · obtain rfl := List.mem_singleton.1 hc
        rw [byte_toNat _ (by omega)]
        omega
theorem parse_dec_all (u : Nat) (h : u < 18446744073709551616) : Lib.parseUintB 64 (Lib.decDigits u) = .ok u := by
  unfold Lib.parseUintB
  rw [if_neg (dec_ne u), show (2 ^ 64 - 1 : Nat) = 18446744073709551615 from rfl]
  have := parse_dec u [] h
  rw [List.append_nil] at this
  rw [this]
  rfl
theorem parse_itoa (n : Int) (h : I64 n) : Lib.parseIntB 64 (Lib.itoa n) = .ok n := by
  obtain ⟨h1, h2⟩ := h
  by_cases hn : n < 0
  · obtain ⟨u, rfl⟩ : ∃ u : Nat, n = -(u : Int) := ⟨n.natAbs, by omega⟩
    rw [Lib.itoa_neg u (by omega), Lib.parseIntB_minus, parse_dec_all u (by omega)]
    unfold Lib.signedC
    simp
    omega
  · obtain ⟨u, rfl⟩ : ∃ u : Nat, n = (u : Int) := ⟨n.toNat, by omega⟩
    rw [Lib.itoa_nonneg u]
    have hp := parse_dec_all u (by omega)
    cases hd : Lib.decDigits u with
    | nil => exact absurd hd (dec_ne u)
    | cons c r =>
      have hc := dec_digit u c (by rw [hd]; exact List.mem_cons_self)
      rw [hd] at hp
      rw [Lib.parseIntB_plain _ c r (by omega) (by omega), hp]
      unfold Lib.signlessC
      simp
      omega
theorem numL_itoa (n : Int) (h : I64 n) : numL (Lib.itoa n) = n := by
  unfold numL
  rw [parse_itoa n h]
  simp
theorem numL_not (l : List UInt8) (h : ∀ n, I64 n → Lib.itoa n ≠ l) : numL l = 0 := by
  unfold numL
  cases hp : Lib.parseIntB 64 l with
  | ok v =>
    have hb := Lib.parseIntB_bounds hp
    exact if_neg (h v ⟨by have := hb.1; simp at this; omega, by have := hb.2; simp at this; omega⟩)
  | range => rfl
  | _ => rfl
theorem numL_i64 (l : List UInt8) : I64 (numL l) := by
  unfold numL
  cases hp : Lib.parseIntB 64 l with
  | ok v =>
    have hb := Lib.parseIntB_bounds hp
    have hv : I64 v := ⟨by have := hb.1; simp at this; omega, by have := hb.2; simp at this; omega⟩
    show I64 (if Lib.itoa v = l then v else 0)
    split
    · exact hv
    · exact ⟨by omega, by omega⟩
  | range => exact (show I64 0 from ⟨by omega, by omega⟩)
  | _ => exact (show I64 0 from ⟨by omega, by omega⟩)
theorem byte_at (s : ByteArray) (j : Nat) (h : j < s.size) : s[j]?.getD 0 = s.data.toList.getD j 0 := by
  rw [getD_byte s j h, List.getD_eq_getElem?_getD]
  have h' : j < s.data.toList.length := by simpa using h
  rw [List.getElem?_eq_getElem h', Option.getD_some]
  rfl
theorem digB_itoa (s : ByteArray) (n : Int) (h : Lib.itoa n = s.data.toList) : digB s = true := by
  have hl : s.data.toList.length = s.size := rfl
  have hcase : (∃ u, s.data.toList = Lib.decDigits u) ∨ ∃ u, s.data.toList = 45 :: Lib.decDigits u := by
    rw [← h]
    unfold Lib.itoa
    split
    · exact .inr ⟨_, rfl⟩
    · exact .inl ⟨_, rfl⟩
  have hd : ∀ (u j : Nat), j < (Lib.decDigits u).length → 48 ≤ ((Lib.decDigits u).getD j 0).toNat ∧ ((Lib.decDigits u).getD j 0).toNat ≤ 57 := fun u j hj => by
    rw [List.getD_eq_getElem?_getD, List.getElem?_eq_getElem hj]
    exact dec_digit u _ (List.getElem_mem hj)
  rcases hcase with ⟨u, hu⟩ | ⟨u, hu⟩
  · refine digB_true s (by rw [← hl, hu]; exact List.length_pos_iff.2 (dec_ne u)) (fun j hj => ?_)
    unfold okDig
    rw [byte_at s j hj, hu]
    exact .inl (hd u j (by rw [← hu, hl]; exact hj))
  · refine digB_true s (by rw [← hl, hu]; simp) (fun j hj => ?_)
    unfold okDig
    rw [byte_at s j hj, hu]
    cases j with
    | zero => exact .inr ⟨rfl, rfl⟩
    | succ j => exact .inl (hd u j (by have : s.data.toList.length = (Lib.decDigits u).length + 1 := by rw [hu]; rfl
                                       omega))
theorem numL_dig (s : ByteArray) (h : digB s = false) : numL s.data.toList = 0 := numL_not _ fun n _ hn => by
  rw [digB_itoa s n hn] at h
  cases h
def ParsePost (s : ByteArray) (w : World) (e : Ending) (w' : World) : Prop := Below w.heap.size w w' ∧
  ((∃ n, Lib.parseIntB 64 s.data.toList = .ok n ∧ e = .returned (.tuple #[.int .i64 n, .nilIface])) ∨ ∃ n t p, (∀ v, Lib.parseIntB 64 s.data.toList ≠ .ok v) ∧ e = .returned (.tuple #[.int .i64 n, .iface t p]))
theorem parse_calls (s : ByteArray) (w : World) (hL : Laid w) (hs : s.size ≤ 281474976710656) :
    Calls Tryd.prog 34 #[.string s, .int .i64 10, .int .i64 64] w (ParsePost s w) := by
  obtain ⟨tp, pp, hsy⟩ := hL.syn
  obtain ⟨tr, pr, hrg⟩ := hL.rng
  cases hp : Lib.parseIntB 64 s.data.toList with
  | ok v =>
    refine (Tryd.strconv_ParseInt_10_at64_ok s (by omega) v hp w).mono ?_
    rintro e w' ⟨rfl, h⟩
    refine ⟨?_, .inl ⟨v, hp, rfl⟩⟩
    rcases h with rfl | ⟨t, rfl⟩
    · exact Below.refl _ _
    · exact Lib.bytesWorld_below _ _ _
  | range =>
    refine (Tryd.strconv_ParseInt_10_at64_range_var s hs hp tr pr w hrg).mono ?_
    rintro e w' ⟨N, rfl, _, _, hb⟩
    exact ⟨hb, .inr ⟨_, _, _, (fun v h => by rw [hp] at h; cases h), rfl⟩⟩
  | _ =>
    refine (Tryd.strconv_ParseInt_10_at64_syntax_var s hs hp tp pp w hsy).mono ?_
    rintro e w' ⟨N, rfl, _, _, hb⟩
    exact ⟨hb, .inr ⟨_, _, _, (fun v h => by rw [hp] at h; cases h), rfl⟩⟩
structure NumS (w W' : World) (s : ByteArray) : Prop where
  cell : W'.cell? ⟨w.heap.size, 2, none⟩ = some (.string s)
  laid : Laid W'
  bel : Below w.heap.size w W'
  lt : w.heap.size < W'.heap.size
theorem NumS.step {w W W' : World} {s : ByteArray} (h : NumS w W s) (hb : Below W.heap.size W W') : NumS w W' s :=
  ⟨by rw [hb.cell (p := ⟨w.heap.size, 2, none⟩) h.lt]; exact h.cell, h.laid.below hb, below_step h.bel hb, Nat.lt_of_lt_of_le h.lt hb.size⟩
theorem NumS.drew {w W : World} {s : ByteArray} (h : NumS w W s) : NumS w W.drew s := h.step (below_drew1 (Below.refl _ _))
theorem fmt_run (n : Int) (h : I64 n) (w W : World) (s : ByteArray) (hS : NumS w W s) : Calls Tryd.prog 32 #[.int .i64 n, .int .i64 10] W fun e W' => e = .returned (.string ⟨(Lib.itoa n).toArray⟩) ∧ NumS w W' s :=
  (strconv_FormatInt.calls n 10 _ W hS.laid (by unfold strconv_FormatInt.f; rw [if_pos ⟨rfl, h.1, h.2⟩])).mono fun e W' h => ⟨h.1, hS.step h.2⟩
def value_Num.f (a0_0 a0_1 : Int) (a0_2 : ByteArray) : Option Int :=
  if a0_0 = 2 ∨ a0_0 = 3 then some a0_1 else if a0_0 = 4 then (if a0_2.size ≤ 281474976710656 then some (numL a0_2.data.toList) else none) else some 0
set_option maxHeartbeats 2000000 in
set_option maxRecDepth 100000 in
theorem value_Num.calls (a0_0 a0_1 : Int) (a0_2 : ByteArray) (r : Int) (w : World) (hL : Laid w) (h : value_Num.f a0_0 a0_1 a0_2 = some r) :
    Calls Tryd.prog 17 #[.agg #[.int .i64 a0_0, .int .i64 a0_1, .string a0_2]] w fun e w' => e = .returned (.int .i64 r) ∧ Below w.heap.size w w' := by
  unfold value_Num.f at h
  have HB := Aside0.mk (Below.refl w.heap.size w)
  have HL := Aside0.mk hL
  clear hL
  by_cases h23 : a0_0 = 2 ∨ a0_0 = 3
  · rw [if_pos h23] at h
    obtain rfl := Option.some.inj h
    clear h
    rcases h23 with rfl | rfl
    · go_enter Tryd.func17, Tryd.ntmps17
      go_wp2
      go_ret
      exact ⟨rfl, by repeat (first | exact Below.refl _ _ | apply below_alloc | apply pw_below_drewN | apply below_drew1)⟩
    · go_enter Tryd.func17, Tryd.ntmps17
      go_wp2
      go_ret
      exact ⟨rfl, by repeat (first | exact Below.refl _ _ | apply below_alloc | apply pw_below_drewN | apply below_drew1)⟩
  · rw [if_neg h23] at h
    have c2 : (a0_0 == 2) = false := beq_eq_false_iff_ne.mpr (fun e => h23 (.inl e))
    have c3 : (a0_0 == 3) = false := beq_eq_false_iff_ne.mpr (fun e => h23 (.inr e))
    by_cases h4 : a0_0 = 4
    · rw [if_pos h4] at h
      by_cases hs : a0_2.size ≤ 281474976710656
      · rw [if_pos hs] at h
        obtain rfl := Option.some.inj h
        clear h h23 c2 c3
        subst h4
        have HD := Aside0.mk (fun W => isDigits_calls a0_2 W (by omega))
        cases hd : digB a0_2 with
        | false =>
          rw [numL_dig a0_2 hd]
          rw [hd] at HD
          clear hd hs
          go_enter Tryd.func17, Tryd.ntmps17
          go_wp2_with (go_at_call 33; refine (HD.out _).mono ?_; rintro e w1 ⟨rfl, hb⟩; have HB1 := Aside0.mk (below_step (below_alloc HB.out _) hb); clear hb)
          go_ret
          exact ⟨rfl, HB1.out⟩
        | true =>
          rw [hd] at HD
          clear hd
          have HS := Aside0.mk hs
          clear hs
          go_enter Tryd.func17, Tryd.ntmps17
          go_wp2_with (go_at_call 33; refine (HD.out _).mono ?_; rintro e w2 ⟨rfl, hb⟩; have HB2 := Aside0.mk (below_step (below_alloc HB.out _) hb); have BK2 := Aside0.mk (blk_below (heap_alloc_new w _) hb); have hc2 := (blk_cell BK2.out 2).trans rfl; clear hb)
          refine (parse_calls a0_2 w2 (HL.out.below HB2.out) HS.out).mono ?_
          rintro e w3 ⟨hb, ⟨n, hp, rfl⟩ | ⟨n, t, p, hp, rfl⟩⟩
          · have HB3 := Aside0.mk (below_step HB2.out hb)
            have BK3 := Aside0.mk (blk_below BK2.out hb)
            have hc3 := (blk_cell BK3.out 2).trans rfl
            have hv := Lib.parseIntB_bounds hp
            have HV := Aside0.mk (show I64 n from ⟨by have := hv.1; simp at this; omega, by have := hv.2; simp at this; omega⟩)
            have HN := Aside0.mk (show numL a0_2.data.toList = if Lib.itoa n = a0_2.data.toList then n else 0 from by unfold numL; rw [hp])
            have hS := NumS.mk hc3 ((HL.out.below HB2.out).below hb) HB3.out (blk_lt BK3.out)
            clear hb hc2 hv hp hc3 HB2 BK2 HB3 BK3 HD
            go_wp2
            go_region_held3 (fun w' => w'.cell? ⟨w.heap.size, 2, none⟩ = some (.string a0_2) ∧ NumS w w' a0_2) (first | assumption | exact ⟨NumS.cell (by assumption), by assumption⟩ | exact ⟨(NumS.drew (by assumption)).cell, NumS.drew (by assumption)⟩)
              (first | (go_at_call 32; refine (fmt_run n HV.out w _ a0_2 (by first | assumption | (refine And.right ?_; assumption) | (apply NumS.drew; assumption))).mono ?_; rintro e w' ⟨rfl, hS'⟩))
            rename_i hS'
            have HS' := Aside0.mk (show NumS w _ a0_2 from by first | exact hS'.2 | exact hS')
            by_cases he : Lib.itoa n = a0_2.data.toList
            · have hb : (Lib.itoa n == a0_2.toList) = true := by rw [ByteArray.toList_eq, he]; exact beq_self_eq_true _
              rw [hb]
              have HN' := Aside0.mk (HN.out.trans (if_pos he))
              clear hb he HN
              go_wp2
              go_ret
              exact ⟨by rw [HN'.out]; rfl, HS'.out.bel⟩
            · have hb : (Lib.itoa n == a0_2.toList) = false := by rw [ByteArray.toList_eq]; exact beq_eq_false_iff_ne.mpr he
              rw [hb]
              have HN' := Aside0.mk (HN.out.trans (if_neg he))
              clear hb he HN
              go_wp2
              go_ret
              exact ⟨by rw [HN'.out]; rfl, HS'.out.bel⟩
          · have HB3 := Aside0.mk (below_step HB2.out hb)
            have HN := Aside0.mk (show numL a0_2.data.toList = 0 from by unfold numL; split; (exact absurd (by assumption) (hp _)); rfl)
            clear hb hc2 hp
            go_wp2
            go_quiet (fail)
            go_wp2
            go_ret
            exact ⟨by rw [HN.out]; rfl, by repeat (first | exact HB3.out | apply pw_below_drewN | apply below_drew1)⟩
      · rw [if_neg hs] at h; cases h
    · rw [if_neg h4] at h
      obtain rfl := Option.some.inj h
      have c4 : (a0_0 == 4) = false := beq_eq_false_iff_ne.mpr h4
      clear h h23 h4
      go_enter Tryd.func17, Tryd.ntmps17
      go_wp2
      go_ret
      exact ⟨rfl, by repeat (first | exact Below.refl _ _ | apply below_alloc | apply pw_below_drewN | apply below_drew1)⟩
end Go.Proofs.YtmdchbenalhpjaaDoor.Va

/- What holds for all large numbers of rounds; small facts on lists and whole numbers. No condition. -/
namespace Go.Proofs.YtmdchbenalhpjaaDoor.Ev
open Go.RowKit Go.Proofs.YtmdchbenalhpjaaDoorW.PrintWords
def Ev (p : Nat → Prop) : Prop := ∃ K, ∀ k, K ≤ k → p k
theorem Ev.all {p : Nat → Prop} (h : ∀ k, p k) : Ev p := ⟨0, fun k _ => h k⟩
theorem Ev.ex {p : Nat → Prop} (h : Ev p) : ∃ k, p k := by obtain ⟨K, h⟩ := h; exact ⟨K, h K (Nat.le_refl _)⟩
theorem Ev.and {p q : Nat → Prop} (h : Ev p) (g : Ev q) : Ev fun k => p k ∧ q k := by
  obtain ⟨K, h⟩ := h
  obtain ⟨M, g⟩ := g
  exact ⟨K + M, fun k hk => ⟨h k (by omega), g k (by omega)⟩⟩
theorem Ev.mono {p q : Nat → Prop} (h : Ev p) (f : ∀ k, p k → q k) : Ev q := by
  obtain ⟨K, h⟩ := h
  exact ⟨K, fun k hk => f k (h k hk)⟩
theorem Ev.succ {p q : Nat → Prop} (h : Ev p) (f : ∀ k, p k → q (k + 1)) : Ev q := by
  obtain ⟨K, h⟩ := h
  refine ⟨K + 1, fun k hk => ?_⟩
  obtain ⟨k, rfl⟩ : ∃ j, k = j + 1 := ⟨k - 1, by omega⟩
  exact f k (h k (by omega))
theorem Ev.step {q : Nat → Prop} (f : ∀ k, q (k + 1)) : Ev q := (Ev.all (p := fun _ => True) fun _ => trivial).succ fun k _ => f k
theorem drop_at {α : Type} (l : List α) (i : Nat) (d : α) (h : i < l.length) : l.drop i = l.getD i d :: l.drop (i + 1) := by
  rw [List.drop_eq_getElem_cons h, List.getD_eq_getElem?_getD, List.getElem?_eq_getElem h]
  rfl
theorem wrap_nat (i : Nat) (h : i + 1 ≤ 9223372036854775807) : wrap64 ((i : Int) + 1) = ((i + 1 : Nat) : Int) := by
  unfold wrap64
  omega
theorem wrap_id (x : Int) (h0 : -9223372036854775808 ≤ x) (h1 : x ≤ 9223372036854775807) : wrap64 x = x := by
  unfold wrap64
  omega
end Go.Proofs.YtmdchbenalhpjaaDoor.Ev

/- make([]T, 0, n): a row of one's own of nothing, with room. No condition. -/
namespace Go.Proofs.YtmdchbenalhpjaaDoorW.PrintWords
open Go.RowKit
set_option linter.unusedVariables false
section
variable {P : Program} {ops : Array Oper} {rest : List Oper} {o : Oper} {a : Act} {Q : Exit → Act → World → Prop} {Kc : Act → World → Prop} {α : Type}
theorem make0_run {W : World} {t e : TypeId} {x y : Operand} (ho : o.op = .makeSlice t x y) {n : Int} (hx : a.eval x = .int .i64 0) (hy : a.eval y = .int .i64 n)
    (ht : P.underlying t = some (.slice e)) {z : Value} {bytes sz : Nat} (hinfo : (P.info? e).map (fun i => (i.zero, i.size, i.bytes)) = some (some z, sz, bytes)) (hz : z.cells.size = sz) (hb0 : 0 < bytes) (h0 : 0 ≤ n) (hl : n.toNat * bytes ≤ 281474976710656) :
    (execOp a.eval o).run P W = .ok (.value (.slice (some ⟨W.heap.size, 0, none⟩) 0 n.toNat)) (W.alloc (.cells (madeCells z.cells (n.toNat * sz)) e)) := by
  obtain ⟨m, rfl⟩ := Int.eq_ofNat_of_zero_le h0
  simp only [Int.toNat_natCast] at hl ⊢
  obtain ⟨i0, hi, hzz⟩ := Option.map_eq_some_iff.1 hinfo
  simp only [Prod.mk.injEq] at hzz
  obtain ⟨hz0, hz1, hz2⟩ := hzz
  have hm : m ≤ 281474976710656 := Nat.le_trans (Nat.le_mul_of_pos_right _ hb0) hl
  have hr := run_make (P := P) W t e i0 z ht hi hz0 .i64 .i64 0 (m : Int) (by omega) (by omega)
    (by
      have h3 : ((i0.bytes * m : Nat) : Int) ≤ 281474976710656 := by rw [hz2, Nat.mul_comm]; omega
      rwa [Int.natCast_mul] at h3) (by omega)
  simp only [Int.toNat_natCast] at hr
  rw [hz1] at hr
  simp [execOp, ho, hx, hy, hr]
theorem made0_R (d : Kd α) {W : World} {base e m bytes : Nat} {z : Value} {ok : Nat → Prop} (hz : z.cells.size = d.sz) (hfresh : ok W.heap.size) (hbase : base ≤ W.heap.size) (hm : m * bytes ≤ 281474976710656) (hb0 : 0 < bytes) :
    d.R e (W.alloc (.cells (madeCells z.cells (m * d.sz)) e)) base ok (.slice (some ⟨W.heap.size, 0, none⟩) 0 m) [] := by
  have hm' : m ≤ 281474976710656 := Nat.le_trans (Nat.le_mul_of_pos_right _ hb0) hm
  refine ⟨fun k hk => ?_, [], World.ownsRow_made W _ m hbase (by simp only [maxLen]; omega) (by simp [size_madeCells]), Reps.none _ _⟩
  have : W.heap.size = k := by simpa [Value.ownBlock] using hk
  subst this
  exact hfresh
theorem Kd.R_make0 (d : Kd α) {w0 W : World} (base e : Nat) (hgd : o.guard = none) {N : Tmp} (_hd : o.dst = some N) (t : TypeId) (x y : Operand) (ho : o.op = .makeSlice t x y) (n : Int) (hx : a.eval x = .int .i64 0) (hy : a.eval y = .int .i64 n)
    (ht : P.underlying t = some (.slice e)) (z : Value) (bytes : Nat) (hinfo : (P.info? e).map (fun i => (i.zero, i.size, i.bytes)) = some (some z, d.sz, bytes)) (hz : z.cells.size = d.sz) (hs0 : 0 < d.sz) (hb0 : 0 < bytes)
    (z0 : α) {ok okp : Nat → Prop} (hzero : d.M W base okp z0 z.cells.toList) (hok : ∀ k, okp k → ok k) (hfresh : ok W.heap.size) (h0 : 0 ≤ n) (hl : n.toNat * bytes ≤ 281474976710656) (HB : Below base w0 W) (hbase : base ≤ W.heap.size)
    (h : ∀ v1 w1, d.R e w1 base ok v1 (List.replicate 0 z0) → Below base w0 w1 → W.grownBy w1 none → (∃ b, v1.ownBlock = some b ∧ W.heap.size ≤ b) → wpList P ops Q rest (a.put o.dst v1) w1) : wpList P ops Q (o :: rest) a W :=
  event_run hgd (make0_run ho hx hy ht hinfo hz hb0 h0 hl) (h _ _ (made0_R d hz hfresh hbase hl hb0) (HB.alloc hbase _) (World.grownBy_alloc W _ none) ⟨W.heap.size, by simp [Value.ownBlock], Nat.le_refl _⟩)
end
end Go.Proofs.YtmdchbenalhpjaaDoorW.PrintWords

-- WRITTEN BY hprint.py (a patched scratch copy of print.py, see NOTES.md): out of the translation and of contracts proved by hand.
namespace Go.Proofs.YtmdchbenalhpjaaDoor.Pr
open Go.RowKit Go.Proofs.YtmdchbenalhpjaaDoorW.PrintWords Go.Proofs.YtmdchbenalhpjaaDoorW.PrintLast Go.Proofs.YtmdchbenalhpjaaDoorW.PrintMore
set_option linter.unusedVariables false
set_option linter.unusedSimpArgs false
def errW : Option Int → Value
  | none => .nilIface
  | some c => .iface 0 (.int .i64 c)
theorem errW_none : errW none = .nilIface := rfl
theorem errW_some (c : Int) : errW (some c) = .iface 0 (.int .i64 c) := rfl
end Go.Proofs.YtmdchbenalhpjaaDoor.Pr

-- WRITTEN BY hprint.py (a patched scratch copy of print.py, see NOTES.md): out of the translation and of contracts proved by hand.
namespace Go.Proofs.YtmdchbenalhpjaaDoor.Pr
open Go.RowKit Go.Proofs.YtmdchbenalhpjaaDoorW.PrintWords Go.Proofs.YtmdchbenalhpjaaDoorW.PrintLast Go.Proofs.YtmdchbenalhpjaaDoorW.PrintMore
set_option linter.unusedVariables false
set_option linter.unusedSimpArgs false
/-! ### gumshoeref06_digits: function 36 -/
mutual
def gumshoeref06_digits.j0 : Nat → Int → ByteArray → Int → Option (ByteArray)
  | 0, _, _, _ => none
  | k + 1, x0, x3, x4 => gumshoeref06_digits.l0 k x0 x3 x4
def gumshoeref06_digits.l0 : Nat → Int → ByteArray → Int → Option (ByteArray)
  | 0, _, _, _ => none
  | k + 1, x0, x3, x4 => if x4 > 0 then ((some (([(IntKind.u64.wrap (48 + (Int.tmod x4 10))) % 256] : List Int) : List Int)).bind fun y183 => (if (strOfNums y183).size + x3.size ≤ 9223372036854775807 then (gumshoeref06_digits.l0 k x0 ((strOfNums y183) ++ x3) (IntKind.u64.wrap (Int.tdiv x4 10))) else (none))) else (if x0 < 0 then (if 1 + x3.size ≤ 9223372036854775807 then (some ((⟨#[45]⟩ : ByteArray) ++ x3)) else (none)) else (some x3))
end
def gumshoeref06_digits.f (k : Nat) (a0 : Int) : Option (ByteArray) := if a0 = 0 then (some (⟨#[48]⟩ : ByteArray)) else (if a0 < 0 then (gumshoeref06_digits.j0 k a0 (⟨#[]⟩ : ByteArray) (IntKind.u64.wrap (-(IntKind.u64.wrap (a0))))) else (gumshoeref06_digits.j0 k a0 (⟨#[]⟩ : ByteArray) (IntKind.u64.wrap (a0))))
set_option maxHeartbeats 8000000 in
set_option maxRecDepth 100000 in
theorem gumshoeref06_digits.calls (k : Nat) (a0 : Int) (r : ByteArray) (w : World) (h : gumshoeref06_digits.f k a0 = some r) :
    Calls Tryd.prog 36 #[.int .i64 a0] w fun e w' => e = .returned (.string r) ∧ Below w.heap.size w w' := by
  have HB := Aside0.mk (Below.refl w.heap.size w)
  have H : (if a0 = 0 then (some (⟨#[48]⟩ : ByteArray)) else (if a0 < 0 then (gumshoeref06_digits.j0 k a0 (⟨#[]⟩ : ByteArray) (IntKind.u64.wrap (-(IntKind.u64.wrap (a0))))) else (gumshoeref06_digits.j0 k a0 (⟨#[]⟩ : ByteArray) (IntKind.u64.wrap (a0))))) = some r := h
  clear h
  by_cases c2 : a0 = 0
  · rw [if_pos c2] at H
    have c2b0 : (a0 == 0) = true := beq_iff_eq.mpr c2
    have c2b1 : (a0 != 0) = false := bne_eq_false_iff_eq.mpr c2
    clear c2
    obtain rfl := Option.some.inj H
    go_enter Tryd.func36, Tryd.ntmps36
    go_wp2
    go_ret
    exact ⟨by first | rfl | (simp [errW_none, errW_some] <;> rfl) | (simp [*, errW_none, errW_some] <;> rfl) | (simp [*, errW_none, errW_some]; exact (fun (l_ : List UInt8) => (by cases l_ <;> rfl : l_.isEmpty = !(l_ != []))) _), by repeat (first | (with_reducible first | exact HB.out | apply below_alloc | apply pw_below_drewN | apply below_drew1) | exact HB.out)⟩
  · rw [if_neg c2] at H
    have c2b0 : (a0 == 0) = false := beq_eq_false_iff_ne.mpr c2
    have c2b1 : (a0 != 0) = true := bne_iff_ne.mpr c2
    have HC3 := Aside0.mk H
    clear H
    go_enter Tryd.func36, Tryd.ntmps36
    go_upto_if 10 with (fail)
    go_cut [4] (fun v4 wc => ∃ (kq : Nat) (x4_2 : Int), v4 = .int .u64 x4_2 ∧ Aside0 (gumshoeref06_digits.j0 kq a0 (⟨#[]⟩ : ByteArray) x4_2 = some r) ∧ Aside0 (kq ≤ k) ∧ Aside0 (Below w.heap.size w wc))
    case first =>
      have H := HC3.out
      clear HC3
      by_cases c4 : a0 < 0
      · rw [if_pos c4] at H
        have c4b0 : decide (a0 < 0) = true := decide_eq_true c4
        clear c4
        (first | rw [c4b0] | (simp only [i64_w, i32_w]; rw [c4b0]) | skip)
        have H' := Aside0.mk H
        clear H
        go_wp2
        go_meet
        case rel => exact ⟨_, (IntKind.u64.wrap (-(IntKind.u64.wrap (a0)))), (by first | rfl | (simp; done) | (simp [*]; done) | (simp [*]; exact (fun (l_ : List UInt8) => (by cases l_ <;> rfl : l_.isEmpty = !(l_ != []))) _)), H', ⟨by first | omega | exact Nat.le_refl _⟩, ⟨by repeat (first | (with_reducible first | exact HB.out | apply below_alloc | apply pw_below_drewN | apply below_drew1) | exact HB.out)⟩⟩
      · rw [if_neg c4] at H
        have c4b0 : decide (a0 < 0) = false := decide_eq_false c4
        clear c4
        (first | rw [c4b0] | (simp only [i64_w, i32_w]; rw [c4b0]) | skip)
        have H' := Aside0.mk H
        clear H
        go_wp2
        go_meet
        case rel => exact ⟨_, (IntKind.u64.wrap (a0)), (by first | rfl | (simp; done) | (simp [*]; done) | (simp [*]; exact (fun (l_ : List UInt8) => (by cases l_ <;> rfl : l_.isEmpty = !(l_ != []))) _)), H', ⟨by first | omega | exact Nat.le_refl _⟩, ⟨by repeat (first | (with_reducible first | exact HB.out | apply below_alloc | apply pw_below_drewN | apply below_drew1) | exact HB.out)⟩⟩
    case rest =>
      clear HC3
      try clear c2
      try clear c2b0
      try clear c2b1
      try clear p2
      try clear c3
      try clear c4
      try clear c4b0
      obtain ⟨kq, x4_2, rfl, HA, HJ2, HB⟩ := hcut
      cases kq with
      | zero => exact absurd HA.out (by simp [gumshoeref06_digits.j0])
      | succ kj2 =>
        have H := HA.out
        clear HA
        simp only [gumshoeref06_digits.j0] at H
        have H' := Aside0.mk H
        clear H
        go_wp2
        go_loopg [3, 4] kj2 (fun kq v3 v4 w' => ∃ (x3_2 : ByteArray) (x4_2 : Int), v3 = .string x3_2 ∧ v4 = .int .u64 x4_2 ∧ Aside0 (gumshoeref06_digits.l0 kq a0 x3_2 x4_2 = some r) ∧ Aside0 (kq ≤ kj2) ∧ Aside0 (Below w.heap.size w w'))
        case atStart => exact ⟨((⟨#[]⟩ : ByteArray)), (x4_2), (by first | rfl | (simp; done) | (simp [*]; done) | (simp [*]; exact (fun (l_ : List UInt8) => (by cases l_ <;> rfl : l_.isEmpty = !(l_ != []))) _)), (by first | rfl | (simp; done) | (simp [*]; done) | (simp [*]; exact (fun (l_ : List UInt8) => (by cases l_ <;> rfl : l_.isEmpty = !(l_ != []))) _)), H', ⟨Nat.le_refl _⟩, ⟨by repeat (first | (with_reducible first | exact HB.out | apply below_alloc | apply pw_below_drewN | apply below_drew1) | exact HB.out)⟩⟩
        case round =>
          clear H'
          try clear c2
          try clear c2b0
          try clear c2b1
          try clear p2
          try clear c3
          try clear c4
          try clear c4b0
          try clear p2
          obtain ⟨x3_2, x4_2, rfl, rfl, HA, HK2, HB⟩ := hrel
          cases gk with
          | zero => exact absurd HA.out (by simp [gumshoeref06_digits.l0])
          | succ k2 =>
            have H := HA.out
            clear HA
            simp only [gumshoeref06_digits.l0] at H
            by_cases c5 : x4_2 > 0
            · rw [if_pos c5] at H
              have c5b0 : decide (0 < x4_2) = true := decide_eq_true c5
              clear c5
              obtain ⟨y183, hy183⟩ : ∃ y_ : List Int, y_ = (([(IntKind.u64.wrap (48 + (Int.tmod x4_2 10))) % 256] : List Int)) := ⟨_, rfl⟩
              replace H : (if (strOfNums y183).size + x3_2.size ≤ 9223372036854775807 then (gumshoeref06_digits.l0 k2 a0 ((strOfNums y183) ++ x3_2) (IntKind.u64.wrap (Int.tdiv x4_2 10))) else (none)) = some r := by first | (rw [hy183]; with_reducible exact H) | (have H2_ := (Option.bind_some _ _).symm.trans H; rw [hy183]; with_reducible exact H2_) | (have H2_ := (Option.bind_some _ _).symm.trans H; with_reducible exact H2_) | with_reducible exact H | (rw [hy183]; exact H) | exact H
              have Ny183 := Aside0.mk hy183
              clear hy183
              by_cases c6 : (strOfNums y183).size + x3_2.size ≤ 9223372036854775807
              · rw [if_pos c6] at H
                have c6b0 := eq_true c6
                have c6b1 : decide ((strOfNums y183).size + x3_2.size ≤ 9223372036854775807) = true := decide_eq_true c6
                try have c6b2 : (9223372036854775807 < (strOfNums y183).size + x3_2.size) = False := eq_false (Nat.not_lt.2 c6)
                have H' := Aside0.mk H
                clear H
                go_wp2_with (first | ((with_reducible refine gate_dst (N := 19) rfl ?_); refine Kd.R_lit (Kd.int .u8) _ 5 ?hg (N := 19) ?hd (xs := ([(IntKind.u64.wrap (48 + (Int.tmod x4_2 10))) % 256] : List Int)) (inner := [.int .u8 ((IntKind.u64.wrap (48 + (Int.tmod x4_2 10))) % 256)]) (ok := fun _ => True) (okp := fun _ => True) ?hr ?hp (fun _ hk => hk) trivial (Below.refl _ _) (Nat.le_refl _) (by simp) ?_; (case hd => rfl); (case hg => rfl); (case hr => first | (go_simp; done) | (go_simp; rfl)); (case hp => exact (Reps.one (show Kd.M (Kd.int .u8) _ _ _ ((IntKind.u64.wrap (48 + (Int.tmod x4_2 10))) % 256) [.int .u8 ((IntKind.u64.wrap (48 + (Int.tmod x4_2 10))) % 256)] from rfl) (Reps.none _ _))); intro v184 w7 ho8 hb hg_ hnew_; clear hg_ hnew_; (first | rw [← Ny183.out] at ho8 | (simp only [Int.reduceToNat] at ho8; rw [← Ny183.out] at ho8)); have n0_ := Aside0.mk (Kd.R_lower ho8 (below_size (by repeat (first | (with_reducible first | exact HB.out | apply below_alloc | apply pw_below_drewN | apply below_drew1) | exact HB.out)))); have n1_ := Aside0.mk (below_step (by repeat (first | (with_reducible first | exact HB.out | apply below_alloc | apply pw_below_drewN | apply below_drew1) | exact HB.out)) hb); clear HB; have HO185 := n0_; have HB := n1_; clear n0_ n1_; clear hb ho8; have hcv9 := own_string (P := Tryd.prog) Tryd.underlying35 Tryd.underlying5 Tryd.underlying9 (Kd.own_of_R HO185.out)))
                go_roundg k2
                case measure => have := HJ2.out; have := HK2.out; omega
                case rel => exact ⟨((strOfNums y183) ++ x3_2), (IntKind.u64.wrap (Int.tdiv x4_2 10)), (by first | rfl | (simp; done) | (simp [*]; done) | (simp [*]; exact (fun (l_ : List UInt8) => (by cases l_ <;> rfl : l_.isEmpty = !(l_ != []))) _)), (by first | rfl | (simp; done) | (simp [*]; done) | (simp [*]; exact (fun (l_ : List UInt8) => (by cases l_ <;> rfl : l_.isEmpty = !(l_ != []))) _)), H', ⟨by have := HJ2.out; have := HK2.out; omega⟩, ⟨by repeat (first | (with_reducible first | exact HB.out | apply below_alloc | apply pw_below_drewN | apply below_drew1) | exact HB.out)⟩⟩
              · rw [if_neg c6] at H
                exact absurd H (by simp)
            · rw [if_neg c5] at H
              have c5b0 : decide (0 < x4_2) = false := decide_eq_false c5
              clear c5
              by_cases c10 : a0 < 0
              · rw [if_pos c10] at H
                have c10b0 : decide (a0 < 0) = true := decide_eq_true c10
                clear c10
                by_cases c11 : 1 + x3_2.size ≤ 9223372036854775807
                · rw [if_pos c11] at H
                  have c11b0 := eq_true c11
                  have c11b1 : decide (1 + x3_2.size ≤ 9223372036854775807) = true := decide_eq_true c11
                  try have c11b2 : (9223372036854775807 < 1 + x3_2.size) = False := eq_false (Nat.not_lt.2 c11)
                  obtain rfl := Option.some.inj H
                  go_wp2
                  go_ret
                  exact ⟨by first | rfl | (simp [errW_none, errW_some] <;> rfl) | (simp [*, errW_none, errW_some] <;> rfl) | (simp [*, errW_none, errW_some]; exact (fun (l_ : List UInt8) => (by cases l_ <;> rfl : l_.isEmpty = !(l_ != []))) _), by repeat (first | (with_reducible first | exact HB.out | apply below_alloc | apply pw_below_drewN | apply below_drew1) | exact HB.out)⟩
                · rw [if_neg c11] at H
                  exact absurd H (by simp)
              · rw [if_neg c10] at H
                have c10b0 : decide (a0 < 0) = false := decide_eq_false c10
                clear c10
                obtain rfl := Option.some.inj H
                go_wp2
                go_ret
                exact ⟨by first | rfl | (simp [errW_none, errW_some] <;> rfl) | (simp [*, errW_none, errW_some] <;> rfl) | (simp [*, errW_none, errW_some]; exact (fun (l_ : List UInt8) => (by cases l_ <;> rfl : l_.isEmpty = !(l_ != []))) _), by repeat (first | (with_reducible first | exact HB.out | apply below_alloc | apply pw_below_drewN | apply below_drew1) | exact HB.out)⟩
/-! ### gumshoeref06_Key: function 22 -/
def gumshoeref06_Key.f (k : Nat) (a0_0 : Int) (a0_1 : Int) (a0_2 : ByteArray) : Option (ByteArray) := if a0_0 = 0 then (some (⟨#[117, 110, 100, 101, 102, 105, 110, 101, 100]⟩ : ByteArray)) else (if a0_0 = 1 then (some (⟨#[110, 117, 108, 108]⟩ : ByteArray)) else (if a0_0 = 2 then (if a0_1 = 1 then (some (⟨#[116, 114, 117, 101]⟩ : ByteArray)) else (some (⟨#[102, 97, 108, 115, 101]⟩ : ByteArray))) else (if a0_0 = 3 then ((gumshoeref06_digits.f k a0_1).bind fun t187 => (some t187)) else (if a0_0 = 4 then (some a0_2) else (some (⟨#[91, 111, 98, 106, 101, 99, 116, 93]⟩ : ByteArray))))))
set_option maxHeartbeats 8000000 in
set_option maxRecDepth 100000 in
theorem gumshoeref06_Key.calls (k : Nat) (a0_0 : Int) (a0_1 : Int) (a0_2 : ByteArray) (r : ByteArray) (w : World) (h : gumshoeref06_Key.f k a0_0 a0_1 a0_2 = some r) :
    Calls Tryd.prog 22 #[.agg #[.int .i64 a0_0, .int .i64 a0_1, .string a0_2]] w fun e w' => e = .returned (.string r) ∧ Below w.heap.size w w' := by
  have hu23 := Tryd.underlying23
  have HB := Aside0.mk (Below.refl w.heap.size w)
  have H : (if a0_0 = 0 then (some (⟨#[117, 110, 100, 101, 102, 105, 110, 101, 100]⟩ : ByteArray)) else (if a0_0 = 1 then (some (⟨#[110, 117, 108, 108]⟩ : ByteArray)) else (if a0_0 = 2 then (if a0_1 = 1 then (some (⟨#[116, 114, 117, 101]⟩ : ByteArray)) else (some (⟨#[102, 97, 108, 115, 101]⟩ : ByteArray))) else (if a0_0 = 3 then ((gumshoeref06_digits.f k a0_1).bind fun t187 => (some t187)) else (if a0_0 = 4 then (some a0_2) else (some (⟨#[91, 111, 98, 106, 101, 99, 116, 93]⟩ : ByteArray))))))) = some r := h
  clear h
  by_cases c2 : a0_0 = 0
  · rw [if_pos c2] at H
    have c2b0 : (a0_0 == 0) = true := beq_iff_eq.mpr c2
    have c2b1 : (a0_0 != 0) = false := bne_eq_false_iff_eq.mpr c2
    clear c2
    obtain rfl := Option.some.inj H
    go_enter Tryd.func22, Tryd.ntmps22
    go_wp2_with (first | ((with_reducible refine gate_dst (N := 1) rfl ?_); refine box_event ?hg (N := 1) ?hd (cs := #[.int .i64 a0_0, .int .i64 a0_1, .string a0_2]) (t := 23) ?hr ?_; (case hd => rfl); (case hg => rfl); (case hr => first | (go_simp; done) | (go_simp; rfl)); intro gb186 hg w3 hbox hb; have n0_ := Aside0.mk (below_step (by repeat (first | (with_reducible first | exact HB.out | apply below_alloc | apply pw_below_drewN | apply below_drew1) | exact HB.out)) hb); have n1_ := Aside0.mk (hbox); have n2_ := Aside0.mk ((by rw [hg]; exact (below_size (by repeat (first | (with_reducible first | exact HB.out | apply below_alloc | apply pw_below_drewN | apply below_drew1) | exact HB.out))) : w.heap.size ≤ gb186)); have n3_ := Aside0.mk ((by rw [hg]; exact (below_size (by repeat (first | (with_reducible first | exact HB.out | apply below_alloc | apply pw_below_drewN | apply below_drew1) | exact HB.out))) : w.heap.size ≤ gb186)); clear HB; have HB := n0_; have BK186 := n1_; have GW186 := n2_; have GE186 := n3_; clear n0_ n1_ n2_ n3_; clear hb hbox hg; have hcz4_0 : w3.cell? ⟨gb186, 0, none⟩ = some (.int .i64 a0_0) := (blk_cell BK186.out 0).trans rfl; have hcz4_1 : w3.cell? ⟨gb186, 1, none⟩ = some (.int .i64 a0_1) := (blk_cell BK186.out 1).trans rfl; have hcz4_2 : w3.cell? ⟨gb186, 2, none⟩ = some (.string a0_2) := (blk_cell BK186.out 2).trans rfl; have hfz4_0 := blk_frozen BK186.out 0; have hfz4_1 := blk_frozen BK186.out 1; have hfz4_2 := blk_frozen BK186.out 2))
    go_ret
    exact ⟨by first | rfl | (simp [errW_none, errW_some] <;> rfl) | (simp [*, errW_none, errW_some] <;> rfl) | (simp [*, errW_none, errW_some]; exact (fun (l_ : List UInt8) => (by cases l_ <;> rfl : l_.isEmpty = !(l_ != []))) _), by repeat (first | (with_reducible first | exact HB.out | apply below_alloc | apply pw_below_drewN | apply below_drew1 | refine below_set ?_ GE186.out) | exact HB.out)⟩
  · rw [if_neg c2] at H
    have c2b0 : (a0_0 == 0) = false := beq_eq_false_iff_ne.mpr c2
    have c2b1 : (a0_0 != 0) = true := bne_iff_ne.mpr c2
    by_cases c5 : a0_0 = 1
    · rw [if_pos c5] at H
      have c5b0 : (a0_0 == 1) = true := beq_iff_eq.mpr c5
      have c5b1 : (a0_0 != 1) = false := bne_eq_false_iff_eq.mpr c5
      clear c5
      obtain rfl := Option.some.inj H
      go_enter Tryd.func22, Tryd.ntmps22
      go_wp2_with (first | ((with_reducible refine gate_dst (N := 1) rfl ?_); refine box_event ?hg (N := 1) ?hd (cs := #[.int .i64 a0_0, .int .i64 a0_1, .string a0_2]) (t := 23) ?hr ?_; (case hd => rfl); (case hg => rfl); (case hr => first | (go_simp; done) | (go_simp; rfl)); intro gb186 hg w6 hbox hb; have n0_ := Aside0.mk (below_step (by repeat (first | (with_reducible first | exact HB.out | apply below_alloc | apply pw_below_drewN | apply below_drew1) | exact HB.out)) hb); have n1_ := Aside0.mk (hbox); have n2_ := Aside0.mk ((by rw [hg]; exact (below_size (by repeat (first | (with_reducible first | exact HB.out | apply below_alloc | apply pw_below_drewN | apply below_drew1) | exact HB.out))) : w.heap.size ≤ gb186)); have n3_ := Aside0.mk ((by rw [hg]; exact (below_size (by repeat (first | (with_reducible first | exact HB.out | apply below_alloc | apply pw_below_drewN | apply below_drew1) | exact HB.out))) : w.heap.size ≤ gb186)); clear HB; have HB := n0_; have BK186 := n1_; have GW186 := n2_; have GE186 := n3_; clear n0_ n1_ n2_ n3_; clear hb hbox hg; have hcz7_0 : w6.cell? ⟨gb186, 0, none⟩ = some (.int .i64 a0_0) := (blk_cell BK186.out 0).trans rfl; have hcz7_1 : w6.cell? ⟨gb186, 1, none⟩ = some (.int .i64 a0_1) := (blk_cell BK186.out 1).trans rfl; have hcz7_2 : w6.cell? ⟨gb186, 2, none⟩ = some (.string a0_2) := (blk_cell BK186.out 2).trans rfl; have hfz7_0 := blk_frozen BK186.out 0; have hfz7_1 := blk_frozen BK186.out 1; have hfz7_2 := blk_frozen BK186.out 2))
      go_ret
      exact ⟨by first | rfl | (simp [errW_none, errW_some] <;> rfl) | (simp [*, errW_none, errW_some] <;> rfl) | (simp [*, errW_none, errW_some]; exact (fun (l_ : List UInt8) => (by cases l_ <;> rfl : l_.isEmpty = !(l_ != []))) _), by repeat (first | (with_reducible first | exact HB.out | apply below_alloc | apply pw_below_drewN | apply below_drew1 | refine below_set ?_ GE186.out) | exact HB.out)⟩
    · rw [if_neg c5] at H
      have c5b0 : (a0_0 == 1) = false := beq_eq_false_iff_ne.mpr c5
      have c5b1 : (a0_0 != 1) = true := bne_iff_ne.mpr c5
      by_cases c8 : a0_0 = 2
      · rw [if_pos c8] at H
        have c8b0 : (a0_0 == 2) = true := beq_iff_eq.mpr c8
        have c8b1 : (a0_0 != 2) = false := bne_eq_false_iff_eq.mpr c8
        clear c8
        by_cases c9 : a0_1 = 1
        · rw [if_pos c9] at H
          have c9b0 : (a0_1 == 1) = true := beq_iff_eq.mpr c9
          have c9b1 : (a0_1 != 1) = false := bne_eq_false_iff_eq.mpr c9
          clear c9
          obtain rfl := Option.some.inj H
          go_enter Tryd.func22, Tryd.ntmps22
          go_wp2_with (first | ((with_reducible refine gate_dst (N := 1) rfl ?_); refine box_event ?hg (N := 1) ?hd (cs := #[.int .i64 a0_0, .int .i64 a0_1, .string a0_2]) (t := 23) ?hr ?_; (case hd => rfl); (case hg => rfl); (case hr => first | (go_simp; done) | (go_simp; rfl)); intro gb186 hg w10 hbox hb; have n0_ := Aside0.mk (below_step (by repeat (first | (with_reducible first | exact HB.out | apply below_alloc | apply pw_below_drewN | apply below_drew1) | exact HB.out)) hb); have n1_ := Aside0.mk (hbox); have n2_ := Aside0.mk ((by rw [hg]; exact (below_size (by repeat (first | (with_reducible first | exact HB.out | apply below_alloc | apply pw_below_drewN | apply below_drew1) | exact HB.out))) : w.heap.size ≤ gb186)); have n3_ := Aside0.mk ((by rw [hg]; exact (below_size (by repeat (first | (with_reducible first | exact HB.out | apply below_alloc | apply pw_below_drewN | apply below_drew1) | exact HB.out))) : w.heap.size ≤ gb186)); clear HB; have HB := n0_; have BK186 := n1_; have GW186 := n2_; have GE186 := n3_; clear n0_ n1_ n2_ n3_; clear hb hbox hg; have hcz11_0 : w10.cell? ⟨gb186, 0, none⟩ = some (.int .i64 a0_0) := (blk_cell BK186.out 0).trans rfl; have hcz11_1 : w10.cell? ⟨gb186, 1, none⟩ = some (.int .i64 a0_1) := (blk_cell BK186.out 1).trans rfl; have hcz11_2 : w10.cell? ⟨gb186, 2, none⟩ = some (.string a0_2) := (blk_cell BK186.out 2).trans rfl; have hfz11_0 := blk_frozen BK186.out 0; have hfz11_1 := blk_frozen BK186.out 1; have hfz11_2 := blk_frozen BK186.out 2))
          go_ret
          exact ⟨by first | rfl | (simp [errW_none, errW_some] <;> rfl) | (simp [*, errW_none, errW_some] <;> rfl) | (simp [*, errW_none, errW_some]; exact (fun (l_ : List UInt8) => (by cases l_ <;> rfl : l_.isEmpty = !(l_ != []))) _), by repeat (first | (with_reducible first | exact HB.out | apply below_alloc | apply pw_below_drewN | apply below_drew1 | refine below_set ?_ GE186.out) | exact HB.out)⟩
        · rw [if_neg c9] at H
          have c9b0 : (a0_1 == 1) = false := beq_eq_false_iff_ne.mpr c9
          have c9b1 : (a0_1 != 1) = true := bne_iff_ne.mpr c9
          obtain rfl := Option.some.inj H
          go_enter Tryd.func22, Tryd.ntmps22
          go_wp2_with (first | ((with_reducible refine gate_dst (N := 1) rfl ?_); refine box_event ?hg (N := 1) ?hd (cs := #[.int .i64 a0_0, .int .i64 a0_1, .string a0_2]) (t := 23) ?hr ?_; (case hd => rfl); (case hg => rfl); (case hr => first | (go_simp; done) | (go_simp; rfl)); intro gb186 hg w12 hbox hb; have n0_ := Aside0.mk (below_step (by repeat (first | (with_reducible first | exact HB.out | apply below_alloc | apply pw_below_drewN | apply below_drew1) | exact HB.out)) hb); have n1_ := Aside0.mk (hbox); have n2_ := Aside0.mk ((by rw [hg]; exact (below_size (by repeat (first | (with_reducible first | exact HB.out | apply below_alloc | apply pw_below_drewN | apply below_drew1) | exact HB.out))) : w.heap.size ≤ gb186)); have n3_ := Aside0.mk ((by rw [hg]; exact (below_size (by repeat (first | (with_reducible first | exact HB.out | apply below_alloc | apply pw_below_drewN | apply below_drew1) | exact HB.out))) : w.heap.size ≤ gb186)); clear HB; have HB := n0_; have BK186 := n1_; have GW186 := n2_; have GE186 := n3_; clear n0_ n1_ n2_ n3_; clear hb hbox hg; have hcz13_0 : w12.cell? ⟨gb186, 0, none⟩ = some (.int .i64 a0_0) := (blk_cell BK186.out 0).trans rfl; have hcz13_1 : w12.cell? ⟨gb186, 1, none⟩ = some (.int .i64 a0_1) := (blk_cell BK186.out 1).trans rfl; have hcz13_2 : w12.cell? ⟨gb186, 2, none⟩ = some (.string a0_2) := (blk_cell BK186.out 2).trans rfl; have hfz13_0 := blk_frozen BK186.out 0; have hfz13_1 := blk_frozen BK186.out 1; have hfz13_2 := blk_frozen BK186.out 2))
          go_ret
          exact ⟨by first | rfl | (simp [errW_none, errW_some] <;> rfl) | (simp [*, errW_none, errW_some] <;> rfl) | (simp [*, errW_none, errW_some]; exact (fun (l_ : List UInt8) => (by cases l_ <;> rfl : l_.isEmpty = !(l_ != []))) _), by repeat (first | (with_reducible first | exact HB.out | apply below_alloc | apply pw_below_drewN | apply below_drew1 | refine below_set ?_ GE186.out) | exact HB.out)⟩
      · rw [if_neg c8] at H
        have c8b0 : (a0_0 == 2) = false := beq_eq_false_iff_ne.mpr c8
        have c8b1 : (a0_0 != 2) = true := bne_iff_ne.mpr c8
        by_cases c14 : a0_0 = 3
        · rw [if_pos c14] at H
          have c14b0 : (a0_0 == 3) = true := beq_iff_eq.mpr c14
          have c14b1 : (a0_0 != 3) = false := bne_eq_false_iff_eq.mpr c14
          clear c14
          replace H := Option.bind_eq_some_iff.mp H
          obtain ⟨t187, A150, H⟩ := H
          replace H : (some t187) = some r := H
          have A15 := Aside0.mk A150
          clear A150
          obtain rfl := Option.some.inj H
          go_enter Tryd.func22, Tryd.ntmps22
          go_wp2_with (first | ((with_reducible refine gate_dst (N := 1) rfl ?_); refine box_event ?hg (N := 1) ?hd (cs := #[.int .i64 a0_0, .int .i64 a0_1, .string a0_2]) (t := 23) ?hr ?_; (case hd => rfl); (case hg => rfl); (case hr => first | (go_simp; done) | (go_simp; rfl)); intro gb186 hg w16 hbox hb; have n0_ := Aside0.mk (below_step (by repeat (first | (with_reducible first | exact HB.out | apply below_alloc | apply pw_below_drewN | apply below_drew1) | exact HB.out)) hb); have n1_ := Aside0.mk (hbox); have n2_ := Aside0.mk ((by rw [hg]; exact (below_size (by repeat (first | (with_reducible first | exact HB.out | apply below_alloc | apply pw_below_drewN | apply below_drew1) | exact HB.out))) : w.heap.size ≤ gb186)); have n3_ := Aside0.mk ((by rw [hg]; exact (below_size (by repeat (first | (with_reducible first | exact HB.out | apply below_alloc | apply pw_below_drewN | apply below_drew1) | exact HB.out))) : w.heap.size ≤ gb186)); clear HB; have HB := n0_; have BK186 := n1_; have GW186 := n2_; have GE186 := n3_; clear n0_ n1_ n2_ n3_; clear hb hbox hg; have hcz17_0 : w16.cell? ⟨gb186, 0, none⟩ = some (.int .i64 a0_0) := (blk_cell BK186.out 0).trans rfl; have hcz17_1 : w16.cell? ⟨gb186, 1, none⟩ = some (.int .i64 a0_1) := (blk_cell BK186.out 1).trans rfl; have hcz17_2 : w16.cell? ⟨gb186, 2, none⟩ = some (.string a0_2) := (blk_cell BK186.out 2).trans rfl; have hfz17_0 := blk_frozen BK186.out 0; have hfz17_1 := blk_frozen BK186.out 1; have hfz17_2 := blk_frozen BK186.out 2) | ((with_reducible refine gate_callee (f := 36) rfl ?_); refine goesL_ (some 18) rfl rfl Tryd.func36 (by kernel_rfl) rfl #[.int .i64 a0_1] rfl (by (try simp only [List.map_toArray, List.map_cons, List.map_nil]); first | done | rfl | (simp only [List.length_drop, List.length_take]; rfl)) ?_; (with_reducible refine (gumshoeref06_digits.calls k a0_1 t187 _ A15.out).mono ?_); rintro e w18 ⟨rfl, hb⟩; refine ⟨_, rfl, ?_⟩; have n0_ := Aside0.mk (blk_below (g := gb186) (o := .cells #[.int .i64 a0_0, .int .i64 a0_1, .string a0_2] 23 (0, 0)) (by (with_reducible repeat (first | refine blk_drewN ?_ _ | refine blk_drew ?_ | refine blk_alloc ?_ _)); exact BK186.out) hb); have n1_ := Aside0.mk (below_step (by repeat (first | (with_reducible first | exact HB.out | apply below_alloc | apply pw_below_drewN | apply below_drew1 | refine below_set ?_ GE186.out) | exact HB.out)) hb); clear BK186; clear HB; have BK186 := n0_; have HB := n1_; clear n0_ n1_; (try clear hb); (try clear hb2); (try clear hk); (try clear hi)))
          go_ret
          exact ⟨by first | rfl | (simp [errW_none, errW_some] <;> rfl) | (simp [*, errW_none, errW_some] <;> rfl) | (simp [*, errW_none, errW_some]; exact (fun (l_ : List UInt8) => (by cases l_ <;> rfl : l_.isEmpty = !(l_ != []))) _), by repeat (first | (with_reducible first | exact HB.out | apply below_alloc | apply pw_below_drewN | apply below_drew1 | refine below_set ?_ GE186.out) | exact HB.out)⟩
        · rw [if_neg c14] at H
          have c14b0 : (a0_0 == 3) = false := beq_eq_false_iff_ne.mpr c14
          have c14b1 : (a0_0 != 3) = true := bne_iff_ne.mpr c14
          by_cases c19 : a0_0 = 4
          · rw [if_pos c19] at H
            have c19b0 : (a0_0 == 4) = true := beq_iff_eq.mpr c19
            have c19b1 : (a0_0 != 4) = false := bne_eq_false_iff_eq.mpr c19
            clear c19
            obtain rfl := Option.some.inj H
            go_enter Tryd.func22, Tryd.ntmps22
            go_wp2_with (first | ((with_reducible refine gate_dst (N := 1) rfl ?_); refine box_event ?hg (N := 1) ?hd (cs := #[.int .i64 a0_0, .int .i64 a0_1, .string a0_2]) (t := 23) ?hr ?_; (case hd => rfl); (case hg => rfl); (case hr => first | (go_simp; done) | (go_simp; rfl)); intro gb186 hg w20 hbox hb; have n0_ := Aside0.mk (below_step (by repeat (first | (with_reducible first | exact HB.out | apply below_alloc | apply pw_below_drewN | apply below_drew1) | exact HB.out)) hb); have n1_ := Aside0.mk (hbox); have n2_ := Aside0.mk ((by rw [hg]; exact (below_size (by repeat (first | (with_reducible first | exact HB.out | apply below_alloc | apply pw_below_drewN | apply below_drew1) | exact HB.out))) : w.heap.size ≤ gb186)); have n3_ := Aside0.mk ((by rw [hg]; exact (below_size (by repeat (first | (with_reducible first | exact HB.out | apply below_alloc | apply pw_below_drewN | apply below_drew1) | exact HB.out))) : w.heap.size ≤ gb186)); clear HB; have HB := n0_; have BK186 := n1_; have GW186 := n2_; have GE186 := n3_; clear n0_ n1_ n2_ n3_; clear hb hbox hg; have hcz21_0 : w20.cell? ⟨gb186, 0, none⟩ = some (.int .i64 a0_0) := (blk_cell BK186.out 0).trans rfl; have hcz21_1 : w20.cell? ⟨gb186, 1, none⟩ = some (.int .i64 a0_1) := (blk_cell BK186.out 1).trans rfl; have hcz21_2 : w20.cell? ⟨gb186, 2, none⟩ = some (.string a0_2) := (blk_cell BK186.out 2).trans rfl; have hfz21_0 := blk_frozen BK186.out 0; have hfz21_1 := blk_frozen BK186.out 1; have hfz21_2 := blk_frozen BK186.out 2))
            go_ret
            exact ⟨by first | rfl | (simp [errW_none, errW_some] <;> rfl) | (simp [*, errW_none, errW_some] <;> rfl) | (simp [*, errW_none, errW_some]; exact (fun (l_ : List UInt8) => (by cases l_ <;> rfl : l_.isEmpty = !(l_ != []))) _), by repeat (first | (with_reducible first | exact HB.out | apply below_alloc | apply pw_below_drewN | apply below_drew1 | refine below_set ?_ GE186.out) | exact HB.out)⟩
          · rw [if_neg c19] at H
            have c19b0 : (a0_0 == 4) = false := beq_eq_false_iff_ne.mpr c19
            have c19b1 : (a0_0 != 4) = true := bne_iff_ne.mpr c19
            obtain rfl := Option.some.inj H
            go_enter Tryd.func22, Tryd.ntmps22
            go_wp2_with (first | ((with_reducible refine gate_dst (N := 1) rfl ?_); refine box_event ?hg (N := 1) ?hd (cs := #[.int .i64 a0_0, .int .i64 a0_1, .string a0_2]) (t := 23) ?hr ?_; (case hd => rfl); (case hg => rfl); (case hr => first | (go_simp; done) | (go_simp; rfl)); intro gb186 hg w22 hbox hb; have n0_ := Aside0.mk (below_step (by repeat (first | (with_reducible first | exact HB.out | apply below_alloc | apply pw_below_drewN | apply below_drew1) | exact HB.out)) hb); have n1_ := Aside0.mk (hbox); have n2_ := Aside0.mk ((by rw [hg]; exact (below_size (by repeat (first | (with_reducible first | exact HB.out | apply below_alloc | apply pw_below_drewN | apply below_drew1) | exact HB.out))) : w.heap.size ≤ gb186)); have n3_ := Aside0.mk ((by rw [hg]; exact (below_size (by repeat (first | (with_reducible first | exact HB.out | apply below_alloc | apply pw_below_drewN | apply below_drew1) | exact HB.out))) : w.heap.size ≤ gb186)); clear HB; have HB := n0_; have BK186 := n1_; have GW186 := n2_; have GE186 := n3_; clear n0_ n1_ n2_ n3_; clear hb hbox hg; have hcz23_0 : w22.cell? ⟨gb186, 0, none⟩ = some (.int .i64 a0_0) := (blk_cell BK186.out 0).trans rfl; have hcz23_1 : w22.cell? ⟨gb186, 1, none⟩ = some (.int .i64 a0_1) := (blk_cell BK186.out 1).trans rfl; have hcz23_2 : w22.cell? ⟨gb186, 2, none⟩ = some (.string a0_2) := (blk_cell BK186.out 2).trans rfl; have hfz23_0 := blk_frozen BK186.out 0; have hfz23_1 := blk_frozen BK186.out 1; have hfz23_2 := blk_frozen BK186.out 2))
            go_ret
            exact ⟨by first | rfl | (simp [errW_none, errW_some] <;> rfl) | (simp [*, errW_none, errW_some] <;> rfl) | (simp [*, errW_none, errW_some]; exact (fun (l_ : List UInt8) => (by cases l_ <;> rfl : l_.isEmpty = !(l_ != []))) _), by repeat (first | (with_reducible first | exact HB.out | apply below_alloc | apply pw_below_drewN | apply below_drew1 | refine below_set ?_ GE186.out) | exact HB.out)⟩
end Go.Proofs.YtmdchbenalhpjaaDoor.Pr

-- WRITTEN BY hprint.py (a patched scratch copy of print.py, see NOTES.md): out of the translation and of contracts proved by hand.
namespace Go.Proofs.YtmdchbenalhpjaaDoor.Pr
open Go.RowKit Go.Proofs.YtmdchbenalhpjaaDoorW.PrintWords Go.Proofs.YtmdchbenalhpjaaDoorW.PrintLast Go.Proofs.YtmdchbenalhpjaaDoorW.PrintMore
set_option linter.unusedVariables false
set_option linter.unusedSimpArgs false
/-! ### gumshoeref06_Num: function 23 -/
mutual
def gumshoeref06_Num.j0 : Nat → Bool → Int → Int → ByteArray → Option (Int)
  | 0, _, _, _, _ => none
  | k + 1, x13, x189000, x189001, x189002 => if x13 = true then (some x189001) else (if x189000 = 4 then (if (x189002.size : Int) = 0 then (gumshoeref06_Num.j1 k true x189000 x189001 x189002) else (gumshoeref06_Num.j1 k (decide ((x189002.size : Int) > 20)) x189000 x189001 x189002)) else (gumshoeref06_Num.j1 k true x189000 x189001 x189002))
def gumshoeref06_Num.j1 : Nat → Bool → Int → Int → ByteArray → Option (Int)
  | 0, _, _, _, _ => none
  | k + 1, x30, x189000, x189001, x189002 => if x30 = true then (some 0) else (if 0 < (x189002.size : Int) then (if (bt x189002 0) = 45 then (gumshoeref06_Num.j2 k 0 1 x189000 x189001 x189002) else (gumshoeref06_Num.j2 k 0 0 x189000 x189001 x189002)) else (none))
def gumshoeref06_Num.j2 : Nat → Int → Int → Int → Int → ByteArray → Option (Int)
  | 0, _, _, _, _, _ => none
  | k + 1, x3, x4, x189000, x189001, x189002 => gumshoeref06_Num.l0 k x3 x4 x4 x189000 x189001 x189002
def gumshoeref06_Num.l0 : Nat → Int → Int → Int → Int → Int → ByteArray → Option (Int)
  | 0, _, _, _, _, _, _ => none
  | k + 1, x3, x4, x5, x189000, x189001, x189002 => if x5 < (x189002.size : Int) then (if 0 ≤ x5 then (if (bt x189002 x5) < 48 then (gumshoeref06_Num.j4 k x3 x4 x5 true x189000 x189001 x189002) else (gumshoeref06_Num.j4 k x3 x4 x5 (decide ((bt x189002 x5) > 57)) x189000 x189001 x189002)) else (none)) else (if x4 = 1 then (gumshoeref06_Num.j5 k (wrap64 (-x3)) x189000 x189001 x189002) else (gumshoeref06_Num.j5 k x3 x189000 x189001 x189002))
def gumshoeref06_Num.j4 : Nat → Int → Int → Int → Bool → Int → Int → ByteArray → Option (Int)
  | 0, _, _, _, _, _, _, _ => none
  | k + 1, x3, x4, x5, x54, x189000, x189001, x189002 => if x54 = true then (some 0) else (if 0 ≤ x5 then (if x5 < (x189002.size : Int) then (gumshoeref06_Num.l0 k (wrap64 ((wrap64 (10 * x3)) + (((bt x189002 x5) - 48) % 256))) x4 (wrap64 (x5 + 1)) x189000 x189001 x189002) else (none)) else (none))
def gumshoeref06_Num.j5 : Nat → Int → Int → Int → ByteArray → Option (Int)
  | 0, _, _, _, _ => none
  | k + 1, x3, x189000, x189001, x189002 => (gumshoeref06_digits.f k x3).bind fun t189 => (if t189.toList = x189002.toList then (some x3) else (some 0))
end
def gumshoeref06_Num.f (k : Nat) (a0_0 : Int) (a0_1 : Int) (a0_2 : ByteArray) : Option (Int) := if a0_0 = 2 then (gumshoeref06_Num.j0 k true a0_0 a0_1 a0_2) else (gumshoeref06_Num.j0 k (a0_0 == 3) a0_0 a0_1 a0_2)
set_option maxHeartbeats 8000000 in
set_option maxRecDepth 100000 in
theorem gumshoeref06_Num.calls (k : Nat) (a0_0 : Int) (a0_1 : Int) (a0_2 : ByteArray) (r : Int) (w : World) (h : gumshoeref06_Num.f k a0_0 a0_1 a0_2 = some r) :
    Calls Tryd.prog 23 #[.agg #[.int .i64 a0_0, .int .i64 a0_1, .string a0_2]] w fun e w' => e = .returned (.int .i64 r) ∧ Below w.heap.size w w' := by
  have hu23 := Tryd.underlying23
  have HB := Aside0.mk (Below.refl w.heap.size w)
  have H : (if a0_0 = 2 then (gumshoeref06_Num.j0 k true a0_0 a0_1 a0_2) else (gumshoeref06_Num.j0 k (a0_0 == 3) a0_0 a0_1 a0_2)) = some r := h
  clear h
  have HC2 := Aside0.mk H
  clear H
  go_enter Tryd.func23, Tryd.ntmps23
  go_upto_region 1 with (first | ((with_reducible refine gate_dst (N := 1) rfl ?_); (try (refine gate_guard (by rfl) ?_; dsimp only)); refine box_event ?hg (N := 1) ?hd (cs := #[.int .i64 a0_0, .int .i64 a0_1, .string a0_2]) (t := 23) ?hr ?_; (case hd => rfl); (case hg => rfl); (case hr => first | (go_simp; done) | (go_simp; rfl)); intro gb188 hg w3 hbox hb; have n0_ := Aside0.mk (below_step (by repeat (first | (with_reducible first | exact HB.out | apply below_alloc | apply pw_below_drewN | apply below_drew1) | exact HB.out)) hb); have n1_ := Aside0.mk (hbox); have n2_ := Aside0.mk ((by rw [hg]; exact (below_size (by repeat (first | (with_reducible first | exact HB.out | apply below_alloc | apply pw_below_drewN | apply below_drew1) | exact HB.out))) : w.heap.size ≤ gb188)); have n3_ := Aside0.mk ((by rw [hg]; exact (below_size (by repeat (first | (with_reducible first | exact HB.out | apply below_alloc | apply pw_below_drewN | apply below_drew1) | exact HB.out))) : w.heap.size ≤ gb188)); clear HB; have HB := n0_; have BK188 := n1_; have GW188 := n2_; have GE188 := n3_; clear n0_ n1_ n2_ n3_; clear hb hbox hg))
  (try simp only [Act.put, List.setIfInBounds_toArray, List.set_cons_zero, List.set_cons_succ])
  go_cut [13] (fun v13 wc => ∃ (kq : Nat) (x13_1 : Bool), v13 = .bool x13_1 ∧ Aside0 (gumshoeref06_Num.j0 kq x13_1 a0_0 a0_1 a0_2 = some r) ∧ Aside0 (kq ≤ k) ∧ Aside0 (wc.heap[gb188]? = some (.cells #[.int .i64 a0_0, .int .i64 a0_1, .string a0_2] 23 (0, 0))) ∧ Aside0 (Below w.heap.size w wc))
  case first =>
    have H := HC2.out
    clear HC2
    by_cases c4 : a0_0 = 2
    · rw [if_pos c4] at H
      have c4b0 : (a0_0 == 2) = true := beq_iff_eq.mpr c4
      have c4b1 : (a0_0 != 2) = false := bne_eq_false_iff_eq.mpr c4
      clear c4
      (first | rw [c4b0] | (simp only [i64_w, i32_w]; rw [c4b0]) | skip)
      have H' := Aside0.mk H
      clear H
      have hcz5_0 : w3.cell? ⟨gb188, 0, none⟩ = some (.int .i64 a0_0) := (blk_cell BK188.out 0).trans rfl
      have hcz5_1 : w3.cell? ⟨gb188, 1, none⟩ = some (.int .i64 a0_1) := (blk_cell BK188.out 1).trans rfl
      have hcz5_2 : w3.cell? ⟨gb188, 2, none⟩ = some (.string a0_2) := (blk_cell BK188.out 2).trans rfl
      have hfz5_0 := blk_frozen BK188.out 0
      have hfz5_1 := blk_frozen BK188.out 1
      have hfz5_2 := blk_frozen BK188.out 2
      go_wp2
      go_meet
      case rel => exact ⟨_, (true), (by first | rfl | (simp; done) | (simp [*]; done) | (simp [*]; exact (fun (l_ : List UInt8) => (by cases l_ <;> rfl : l_.isEmpty = !(l_ != []))) _)), H', ⟨by first | omega | exact Nat.le_refl _⟩, ⟨by (with_reducible repeat (first | refine blk_drewN ?_ _ | refine blk_drew ?_ | refine blk_alloc ?_ _)); exact BK188.out⟩, ⟨by repeat (first | (with_reducible first | exact HB.out | apply below_alloc | apply pw_below_drewN | apply below_drew1 | refine below_set ?_ GE188.out) | exact HB.out)⟩⟩
    · rw [if_neg c4] at H
      have c4b0 : (a0_0 == 2) = false := beq_eq_false_iff_ne.mpr c4
      have c4b1 : (a0_0 != 2) = true := bne_iff_ne.mpr c4
      (first | rw [c4b0] | (simp only [i64_w, i32_w]; rw [c4b0]) | skip)
      have H' := Aside0.mk H
      clear H
      have hcz6_0 : w3.cell? ⟨gb188, 0, none⟩ = some (.int .i64 a0_0) := (blk_cell BK188.out 0).trans rfl
      have hcz6_1 : w3.cell? ⟨gb188, 1, none⟩ = some (.int .i64 a0_1) := (blk_cell BK188.out 1).trans rfl
      have hcz6_2 : w3.cell? ⟨gb188, 2, none⟩ = some (.string a0_2) := (blk_cell BK188.out 2).trans rfl
      have hfz6_0 := blk_frozen BK188.out 0
      have hfz6_1 := blk_frozen BK188.out 1
      have hfz6_2 := blk_frozen BK188.out 2
      go_wp2
      go_meet
      case rel => exact ⟨_, ((a0_0 == 3)), (by first | rfl | (simp; done) | (simp [*]; done) | (simp [*]; exact (fun (l_ : List UInt8) => (by cases l_ <;> rfl : l_.isEmpty = !(l_ != []))) _)), H', ⟨by first | omega | exact Nat.le_refl _⟩, ⟨by (with_reducible repeat (first | refine blk_drewN ?_ _ | refine blk_drew ?_ | refine blk_alloc ?_ _)); exact BK188.out⟩, ⟨by repeat (first | (with_reducible first | exact HB.out | apply below_alloc | apply pw_below_drewN | apply below_drew1 | refine below_set ?_ GE188.out) | exact HB.out)⟩⟩
  case rest =>
    clear HC2
    try clear c2
    try clear p2
    try clear c4
    try clear c4b0
    try clear c4b1
    try clear hcz5_0
    try clear hcz5_1
    try clear hcz5_2
    try clear hcz6_0
    try clear hcz6_1
    try clear hcz6_2
    try clear hfz5_0
    try clear hfz5_1
    try clear hfz5_2
    try clear hfz6_0
    try clear hfz6_1
    try clear hfz6_2
    obtain ⟨kq, x13_1, rfl, HA, HJ1, BK188, HB⟩ := hcut
    cases kq with
    | zero => exact absurd HA.out (by simp [gumshoeref06_Num.j0])
    | succ kj1 =>
      have H := HA.out
      clear HA
      simp only [gumshoeref06_Num.j0] at H
      by_cases c7 : x13_1 = true
      · subst c7
        have H1 : (some a0_1) = some r := by rw [if_pos rfl] at H; exact H
        clear H
        have H := H1
        clear H1
        obtain rfl := Option.some.inj H
        have hcz8_0 : wc.cell? ⟨gb188, 0, none⟩ = some (.int .i64 a0_0) := (blk_cell BK188.out 0).trans rfl
        have hcz8_1 : wc.cell? ⟨gb188, 1, none⟩ = some (.int .i64 a0_1) := (blk_cell BK188.out 1).trans rfl
        have hcz8_2 : wc.cell? ⟨gb188, 2, none⟩ = some (.string a0_2) := (blk_cell BK188.out 2).trans rfl
        have hfz8_0 := blk_frozen BK188.out 0
        have hfz8_1 := blk_frozen BK188.out 1
        have hfz8_2 := blk_frozen BK188.out 2
        go_wp2
        go_ret
        exact ⟨by first | rfl | (simp [errW_none, errW_some] <;> rfl) | (simp [*, errW_none, errW_some] <;> rfl) | (simp [*, errW_none, errW_some]; exact (fun (l_ : List UInt8) => (by cases l_ <;> rfl : l_.isEmpty = !(l_ != []))) _), by repeat (first | (with_reducible first | exact HB.out | apply below_alloc | apply pw_below_drewN | apply below_drew1 | refine below_set ?_ GE188.out) | exact HB.out)⟩
      · replace c7 := Bool.eq_false_iff.mpr c7
        subst c7
        have H1 : (if a0_0 = 4 then (if (a0_2.size : Int) = 0 then (gumshoeref06_Num.j1 kj1 true a0_0 a0_1 a0_2) else (gumshoeref06_Num.j1 kj1 (decide ((a0_2.size : Int) > 20)) a0_0 a0_1 a0_2)) else (gumshoeref06_Num.j1 kj1 true a0_0 a0_1 a0_2)) = some r := by rw [if_neg (show ¬ (false = true) by decide)] at H; exact H
        clear H
        have H := H1
        clear H1
        have HC9 := Aside0.mk H
        clear H
        go_upto_region 3 with (fail)
        go_cut [30] (fun v30 wc => ∃ (kq : Nat) (x30_8 : Bool), v30 = .bool x30_8 ∧ Aside0 (gumshoeref06_Num.j1 kq x30_8 a0_0 a0_1 a0_2 = some r) ∧ Aside0 (kq ≤ kj1) ∧ Aside0 (wc.heap[gb188]? = some (.cells #[.int .i64 a0_0, .int .i64 a0_1, .string a0_2] 23 (0, 0))) ∧ Aside0 (Below w.heap.size w wc))
        case first =>
          have H := HC9.out
          clear HC9
          by_cases c10 : a0_0 = 4
          · rw [if_pos c10] at H
            have c10b0 : (a0_0 == 4) = true := beq_iff_eq.mpr c10
            have c10b1 : (a0_0 != 4) = false := bne_eq_false_iff_eq.mpr c10
            clear c10
            (first | rw [c10b0] | (simp only [i64_w, i32_w]; rw [c10b0]) | skip)
            by_cases c11 : (a0_2.size : Int) = 0
            · rw [if_pos c11] at H
              have c11b0 : ((a0_2.size : Int) == 0) = true := beq_iff_eq.mpr c11
              have c11b1 : ((a0_2.size : Int) != 0) = false := bne_eq_false_iff_eq.mpr c11
              clear c11
              have H' := Aside0.mk H
              clear H
              have hcz12_0 : wc.cell? ⟨gb188, 0, none⟩ = some (.int .i64 a0_0) := (blk_cell BK188.out 0).trans rfl
              have hcz12_1 : wc.cell? ⟨gb188, 1, none⟩ = some (.int .i64 a0_1) := (blk_cell BK188.out 1).trans rfl
              have hcz12_2 : wc.cell? ⟨gb188, 2, none⟩ = some (.string a0_2) := (blk_cell BK188.out 2).trans rfl
              have hfz12_0 := blk_frozen BK188.out 0
              have hfz12_1 := blk_frozen BK188.out 1
              have hfz12_2 := blk_frozen BK188.out 2
              go_wp2
              go_meet
              case rel => exact ⟨_, (true), (by first | rfl | (simp; done) | (simp [*]; done) | (simp [*]; exact (fun (l_ : List UInt8) => (by cases l_ <;> rfl : l_.isEmpty = !(l_ != []))) _)), H', ⟨by have := HJ1.out; first | omega | exact Nat.le_refl _⟩, ⟨by (with_reducible repeat (first | refine blk_drewN ?_ _ | refine blk_drew ?_ | refine blk_alloc ?_ _)); exact BK188.out⟩, ⟨by repeat (first | (with_reducible first | exact HB.out | apply below_alloc | apply pw_below_drewN | apply below_drew1 | refine below_set ?_ GE188.out) | exact HB.out)⟩⟩
            · rw [if_neg c11] at H
              have c11b0 : ((a0_2.size : Int) == 0) = false := beq_eq_false_iff_ne.mpr c11
              have c11b1 : ((a0_2.size : Int) != 0) = true := bne_iff_ne.mpr c11
              have H' := Aside0.mk H
              clear H
              have hcz13_0 : wc.cell? ⟨gb188, 0, none⟩ = some (.int .i64 a0_0) := (blk_cell BK188.out 0).trans rfl
              have hcz13_1 : wc.cell? ⟨gb188, 1, none⟩ = some (.int .i64 a0_1) := (blk_cell BK188.out 1).trans rfl
              have hcz13_2 : wc.cell? ⟨gb188, 2, none⟩ = some (.string a0_2) := (blk_cell BK188.out 2).trans rfl
              have hfz13_0 := blk_frozen BK188.out 0
              have hfz13_1 := blk_frozen BK188.out 1
              have hfz13_2 := blk_frozen BK188.out 2
              go_wp2
              go_meet
              case rel => exact ⟨_, (decide ((a0_2.size : Int) > 20)), (by first | rfl | (simp; done) | (simp [*]; done) | (simp [*]; exact (fun (l_ : List UInt8) => (by cases l_ <;> rfl : l_.isEmpty = !(l_ != []))) _)), H', ⟨by have := HJ1.out; first | omega | exact Nat.le_refl _⟩, ⟨by (with_reducible repeat (first | refine blk_drewN ?_ _ | refine blk_drew ?_ | refine blk_alloc ?_ _)); exact BK188.out⟩, ⟨by repeat (first | (with_reducible first | exact HB.out | apply below_alloc | apply pw_below_drewN | apply below_drew1 | refine below_set ?_ GE188.out) | exact HB.out)⟩⟩
          · rw [if_neg c10] at H
            have c10b0 : (a0_0 == 4) = false := beq_eq_false_iff_ne.mpr c10
            have c10b1 : (a0_0 != 4) = true := bne_iff_ne.mpr c10
            (first | rw [c10b0] | (simp only [i64_w, i32_w]; rw [c10b0]) | skip)
            have H' := Aside0.mk H
            clear H
            have hcz14_0 : wc.cell? ⟨gb188, 0, none⟩ = some (.int .i64 a0_0) := (blk_cell BK188.out 0).trans rfl
            have hcz14_1 : wc.cell? ⟨gb188, 1, none⟩ = some (.int .i64 a0_1) := (blk_cell BK188.out 1).trans rfl
            have hcz14_2 : wc.cell? ⟨gb188, 2, none⟩ = some (.string a0_2) := (blk_cell BK188.out 2).trans rfl
            have hfz14_0 := blk_frozen BK188.out 0
            have hfz14_1 := blk_frozen BK188.out 1
            have hfz14_2 := blk_frozen BK188.out 2
            go_wp2
            go_meet
            case rel => exact ⟨_, (true), (by first | rfl | (simp; done) | (simp [*]; done) | (simp [*]; exact (fun (l_ : List UInt8) => (by cases l_ <;> rfl : l_.isEmpty = !(l_ != []))) _)), H', ⟨by have := HJ1.out; first | omega | exact Nat.le_refl _⟩, ⟨by (with_reducible repeat (first | refine blk_drewN ?_ _ | refine blk_drew ?_ | refine blk_alloc ?_ _)); exact BK188.out⟩, ⟨by repeat (first | (with_reducible first | exact HB.out | apply below_alloc | apply pw_below_drewN | apply below_drew1 | refine below_set ?_ GE188.out) | exact HB.out)⟩⟩
        case rest =>
          clear HC9
          try clear c1
          try clear c2
          try clear p2
          try clear c4
          try clear c4b0
          try clear c4b1
          try clear c7
          try clear c10
          try clear c10b0
          try clear c10b1
          try clear c11
          try clear c11b0
          try clear c11b1
          try clear hcz12_0
          try clear hcz12_1
          try clear hcz12_2
          try clear hcz13_0
          try clear hcz13_1
          try clear hcz13_2
          try clear hcz14_0
          try clear hcz14_1
          try clear hcz14_2
          try clear hcz5_0
          try clear hcz5_1
          try clear hcz5_2
          try clear hcz6_0
          try clear hcz6_1
          try clear hcz6_2
          try clear hcz8_0
          try clear hcz8_1
          try clear hcz8_2
          try clear hfz12_0
          try clear hfz12_1
          try clear hfz12_2
          try clear hfz13_0
          try clear hfz13_1
          try clear hfz13_2
          try clear hfz14_0
          try clear hfz14_1
          try clear hfz14_2
          try clear hfz5_0
          try clear hfz5_1
          try clear hfz5_2
          try clear hfz6_0
          try clear hfz6_1
          try clear hfz6_2
          try clear hfz8_0
          try clear hfz8_1
          try clear hfz8_2
          try clear p2
          obtain ⟨kq, x30_8, rfl, HA, HJ8, BK188, HB⟩ := hcut
          cases kq with
          | zero => exact absurd HA.out (by simp [gumshoeref06_Num.j1])
          | succ kj8 =>
            have H := HA.out
            clear HA
            simp only [gumshoeref06_Num.j1] at H
            by_cases c15 : x30_8 = true
            · subst c15
              have H1 : (some 0) = some r := by rw [if_pos rfl] at H; exact H
              clear H
              have H := H1
              clear H1
              obtain rfl := Option.some.inj H
              go_wp2
              go_ret
              exact ⟨by first | rfl | (simp [errW_none, errW_some] <;> rfl) | (simp [*, errW_none, errW_some] <;> rfl) | (simp [*, errW_none, errW_some]; exact (fun (l_ : List UInt8) => (by cases l_ <;> rfl : l_.isEmpty = !(l_ != []))) _), by repeat (first | (with_reducible first | exact HB.out | apply below_alloc | apply pw_below_drewN | apply below_drew1 | refine below_set ?_ GE188.out) | exact HB.out)⟩
            · replace c15 := Bool.eq_false_iff.mpr c15
              subst c15
              have H1 : (if 0 < (a0_2.size : Int) then (if (bt a0_2 0) = 45 then (gumshoeref06_Num.j2 kj8 0 1 a0_0 a0_1 a0_2) else (gumshoeref06_Num.j2 kj8 0 0 a0_0 a0_1 a0_2)) else (none)) = some r := by rw [if_neg (show ¬ (false = true) by decide)] at H; exact H
              clear H
              have H := H1
              clear H1
              by_cases c16 : 0 < (a0_2.size : Int)
              · rw [if_pos c16] at H
                have c16b0 : decide (0 < (a0_2.size : Int)) = true := decide_eq_true c16
                have c16b1 : decide (0 < a0_2.size) = true := decide_eq_true (by omega)
                clear c16
                have HC18 := Aside0.mk H
                clear H
                have hcz19_0 : wc.cell? ⟨gb188, 0, none⟩ = some (.int .i64 a0_0) := (blk_cell BK188.out 0).trans rfl
                have hcz19_1 : wc.cell? ⟨gb188, 1, none⟩ = some (.int .i64 a0_1) := (blk_cell BK188.out 1).trans rfl
                have hcz19_2 : wc.cell? ⟨gb188, 2, none⟩ = some (.string a0_2) := (blk_cell BK188.out 2).trans rfl
                have hfz19_0 := blk_frozen BK188.out 0
                have hfz19_1 := blk_frozen BK188.out 1
                have hfz19_2 := blk_frozen BK188.out 2
                have p17 : 0 ≤ (0 : Int) := (by omega)
                have q17 : 0 < a0_2.size := (by have : (0 : Int) < (a0_2.size : Int) := of_decide_eq_true (by first | (with_reducible assumption) | assumption); omega)
                have hx17 : ∀ h : 0 < a0_2.size, ((a0_2[0]'h).toNat : Int) = bt a0_2 0 := bt_at a0_2 0
                clear p17
                have qi17 : (0 < (a0_2.size : Int)) = True := eq_true (of_decide_eq_true (by first | (with_reducible assumption) | assumption))
                replace q17 := eq_true q17
                go_upto_if 34 with (fail)
                go_cut [4] (fun v4 wc => ∃ (kq : Nat) (x4_17 : Int), v4 = .int .i64 x4_17 ∧ Aside0 (gumshoeref06_Num.j2 kq 0 x4_17 a0_0 a0_1 a0_2 = some r) ∧ Aside0 (kq ≤ kj8) ∧ Aside0 (wc.heap[gb188]? = some (.cells #[.int .i64 a0_0, .int .i64 a0_1, .string a0_2] 23 (0, 0))) ∧ Aside0 (Below w.heap.size w wc))
                case first =>
                  have H := HC18.out
                  clear HC18
                  by_cases c20 : (bt a0_2 0) = 45
                  · rw [if_pos c20] at H
                    have c20b0 : ((bt a0_2 0) == 45) = true := beq_iff_eq.mpr c20
                    have c20b1 : ((bt a0_2 0) != 45) = false := bne_eq_false_iff_eq.mpr c20
                    clear c20
                    (first | rw [c20b0] | (simp only [i64_w, i32_w]; rw [c20b0]) | skip)
                    have H' := Aside0.mk H
                    clear H
                    go_wp2
                    go_meet
                    case rel => exact ⟨_, (1), (by first | rfl | (simp; done) | (simp [*]; done) | (simp [*]; exact (fun (l_ : List UInt8) => (by cases l_ <;> rfl : l_.isEmpty = !(l_ != []))) _)), H', ⟨by have := HJ1.out; have := HJ8.out; first | omega | exact Nat.le_refl _⟩, ⟨by (with_reducible repeat (first | refine blk_drewN ?_ _ | refine blk_drew ?_ | refine blk_alloc ?_ _)); exact BK188.out⟩, ⟨by repeat (first | (with_reducible first | exact HB.out | apply below_alloc | apply pw_below_drewN | apply below_drew1 | refine below_set ?_ GE188.out) | exact HB.out)⟩⟩
                  · rw [if_neg c20] at H
                    have c20b0 : ((bt a0_2 0) == 45) = false := beq_eq_false_iff_ne.mpr c20
                    have c20b1 : ((bt a0_2 0) != 45) = true := bne_iff_ne.mpr c20
                    (first | rw [c20b0] | (simp only [i64_w, i32_w]; rw [c20b0]) | skip)
                    have H' := Aside0.mk H
                    clear H
                    go_wp2
                    go_meet
                    case rel => exact ⟨_, (0), (by first | rfl | (simp; done) | (simp [*]; done) | (simp [*]; exact (fun (l_ : List UInt8) => (by cases l_ <;> rfl : l_.isEmpty = !(l_ != []))) _)), H', ⟨by have := HJ1.out; have := HJ8.out; first | omega | exact Nat.le_refl _⟩, ⟨by (with_reducible repeat (first | refine blk_drewN ?_ _ | refine blk_drew ?_ | refine blk_alloc ?_ _)); exact BK188.out⟩, ⟨by repeat (first | (with_reducible first | exact HB.out | apply below_alloc | apply pw_below_drewN | apply below_drew1 | refine below_set ?_ GE188.out) | exact HB.out)⟩⟩
                case rest =>
                  clear HC18
                  try clear c1
                  try clear p1
                  try clear q1
                  try clear hx1
                  try clear qi1
                  try clear c2
                  try clear p2
                  try clear c4
                  try clear c4b0
                  try clear c4b1
                  try clear c7
                  try clear c10
                  try clear c10b0
                  try clear c10b1
                  try clear c11
                  try clear c11b0
                  try clear c11b1
                  try clear c15
                  try clear c16
                  try clear c16b0
                  try clear c16b1
                  try clear p17
                  try clear q17
                  try clear hx17
                  try clear qi17
                  try clear c20
                  try clear c20b0
                  try clear c20b1
                  try clear hcz12_0
                  try clear hcz12_1
                  try clear hcz12_2
                  try clear hcz13_0
                  try clear hcz13_1
                  try clear hcz13_2
                  try clear hcz14_0
                  try clear hcz14_1
                  try clear hcz14_2
                  try clear hcz19_0
                  try clear hcz19_1
                  try clear hcz19_2
                  try clear hcz5_0
                  try clear hcz5_1
                  try clear hcz5_2
                  try clear hcz6_0
                  try clear hcz6_1
                  try clear hcz6_2
                  try clear hcz8_0
                  try clear hcz8_1
                  try clear hcz8_2
                  try clear hfz12_0
                  try clear hfz12_1
                  try clear hfz12_2
                  try clear hfz13_0
                  try clear hfz13_1
                  try clear hfz13_2
                  try clear hfz14_0
                  try clear hfz14_1
                  try clear hfz14_2
                  try clear hfz19_0
                  try clear hfz19_1
                  try clear hfz19_2
                  try clear hfz5_0
                  try clear hfz5_1
                  try clear hfz5_2
                  try clear hfz6_0
                  try clear hfz6_1
                  try clear hfz6_2
                  try clear hfz8_0
                  try clear hfz8_1
                  try clear hfz8_2
                  try clear p17
                  try clear p2
                  try clear q17
                  obtain ⟨kq, x4_17, rfl, HA, HJ17, BK188, HB⟩ := hcut
                  cases kq with
                  | zero => exact absurd HA.out (by simp [gumshoeref06_Num.j2])
                  | succ kj17 =>
                    have H := HA.out
                    clear HA
                    simp only [gumshoeref06_Num.j2] at H
                    have H' := Aside0.mk H
                    clear H
                    go_wp2
                    go_loopg [3, 5] kj17 (fun kq v3 v5 w' => ∃ (x3_4 : Int) (x5_4 : Int), v3 = .int .i64 x3_4 ∧ v5 = .int .i64 x5_4 ∧ Aside0 (gumshoeref06_Num.l0 kq x3_4 x4_17 x5_4 a0_0 a0_1 a0_2 = some r) ∧ Aside0 (kq ≤ kj17) ∧ Aside0 (w'.heap[gb188]? = some (.cells #[.int .i64 a0_0, .int .i64 a0_1, .string a0_2] 23 (0, 0))) ∧ Aside0 (Below w.heap.size w w'))
                    case atStart => exact ⟨(0), (x4_17), (by first | rfl | (simp; done) | (simp [*]; done) | (simp [*]; exact (fun (l_ : List UInt8) => (by cases l_ <;> rfl : l_.isEmpty = !(l_ != []))) _)), (by first | rfl | (simp; done) | (simp [*]; done) | (simp [*]; exact (fun (l_ : List UInt8) => (by cases l_ <;> rfl : l_.isEmpty = !(l_ != []))) _)), H', ⟨Nat.le_refl _⟩, ⟨by (with_reducible repeat (first | refine blk_drewN ?_ _ | refine blk_drew ?_ | refine blk_alloc ?_ _)); exact BK188.out⟩, ⟨by repeat (first | (with_reducible first | exact HB.out | apply below_alloc | apply pw_below_drewN | apply below_drew1 | refine below_set ?_ GE188.out) | exact HB.out)⟩⟩
                    case round =>
                      clear H'
                      try clear c1
                      try clear p1
                      try clear q1
                      try clear hx1
                      try clear qi1
                      try clear c2
                      try clear p2
                      try clear c4
                      try clear c4b0
                      try clear c4b1
                      try clear c7
                      try clear c10
                      try clear c10b0
                      try clear c10b1
                      try clear c11
                      try clear c11b0
                      try clear c11b1
                      try clear c15
                      try clear c16
                      try clear c16b0
                      try clear c16b1
                      try clear p17
                      try clear q17
                      try clear hx17
                      try clear qi17
                      try clear c20
                      try clear c20b0
                      try clear c20b1
                      try clear hcz12_0
                      try clear hcz12_1
                      try clear hcz12_2
                      try clear hcz13_0
                      try clear hcz13_1
                      try clear hcz13_2
                      try clear hcz14_0
                      try clear hcz14_1
                      try clear hcz14_2
                      try clear hcz19_0
                      try clear hcz19_1
                      try clear hcz19_2
                      try clear hcz5_0
                      try clear hcz5_1
                      try clear hcz5_2
                      try clear hcz6_0
                      try clear hcz6_1
                      try clear hcz6_2
                      try clear hcz8_0
                      try clear hcz8_1
                      try clear hcz8_2
                      try clear hfz12_0
                      try clear hfz12_1
                      try clear hfz12_2
                      try clear hfz13_0
                      try clear hfz13_1
                      try clear hfz13_2
                      try clear hfz14_0
                      try clear hfz14_1
                      try clear hfz14_2
                      try clear hfz19_0
                      try clear hfz19_1
                      try clear hfz19_2
                      try clear hfz5_0
                      try clear hfz5_1
                      try clear hfz5_2
                      try clear hfz6_0
                      try clear hfz6_1
                      try clear hfz6_2
                      try clear hfz8_0
                      try clear hfz8_1
                      try clear hfz8_2
                      try clear p1
                      try clear p17
                      try clear p2
                      try clear q1
                      try clear q17
                      obtain ⟨x3_4, x5_4, rfl, rfl, HA, HK4, BK188, HB⟩ := hrel
                      cases gk with
                      | zero => exact absurd HA.out (by simp [gumshoeref06_Num.l0])
                      | succ k4 =>
                        have H := HA.out
                        clear HA
                        simp only [gumshoeref06_Num.l0] at H
                        by_cases c21 : x5_4 < (a0_2.size : Int)
                        · rw [if_pos c21] at H
                          have c21b0 : decide (x5_4 < (a0_2.size : Int)) = true := decide_eq_true c21
                          clear c21
                          have HC22 := Aside0.mk H
                          clear H
                          have hcz23_0 : wr.cell? ⟨gb188, 0, none⟩ = some (.int .i64 a0_0) := (blk_cell BK188.out 0).trans rfl
                          have hcz23_1 : wr.cell? ⟨gb188, 1, none⟩ = some (.int .i64 a0_1) := (blk_cell BK188.out 1).trans rfl
                          have hcz23_2 : wr.cell? ⟨gb188, 2, none⟩ = some (.string a0_2) := (blk_cell BK188.out 2).trans rfl
                          have hfz23_0 := blk_frozen BK188.out 0
                          have hfz23_1 := blk_frozen BK188.out 1
                          have hfz23_2 := blk_frozen BK188.out 2
                          go_upto_region 12 with (fail)
                          go_cut [54] (fun v54 wc => ∃ (kq : Nat) (x54_21 : Bool), v54 = .bool x54_21 ∧ Aside0 (gumshoeref06_Num.j4 kq x3_4 x4_17 x5_4 x54_21 a0_0 a0_1 a0_2 = some r) ∧ Aside0 (kq ≤ k4) ∧ Aside0 (wc.heap[gb188]? = some (.cells #[.int .i64 a0_0, .int .i64 a0_1, .string a0_2] 23 (0, 0))) ∧ Aside0 (Below w.heap.size w wc))
                          case first =>
                            have H := HC22.out
                            clear HC22
                            by_cases c24 : 0 ≤ x5_4
                            · rw [if_pos c24] at H
                              have c24b0 : decide (0 ≤ x5_4) = true := decide_eq_true c24
                              clear c24
                              (first | rw [c24b0] | (simp only [i64_w, i32_w]; rw [c24b0]) | skip)
                              by_cases c26 : (bt a0_2 x5_4) < 48
                              · rw [if_pos c26] at H
                                have c26b0 : decide ((bt a0_2 x5_4) < 48) = true := decide_eq_true c26
                                clear c26
                                have H' := Aside0.mk H
                                clear H
                                have hcz27_0 : wr.cell? ⟨gb188, 0, none⟩ = some (.int .i64 a0_0) := (blk_cell BK188.out 0).trans rfl
                                have hcz27_1 : wr.cell? ⟨gb188, 1, none⟩ = some (.int .i64 a0_1) := (blk_cell BK188.out 1).trans rfl
                                have hcz27_2 : wr.cell? ⟨gb188, 2, none⟩ = some (.string a0_2) := (blk_cell BK188.out 2).trans rfl
                                have hfz27_0 := blk_frozen BK188.out 0
                                have hfz27_1 := blk_frozen BK188.out 1
                                have hfz27_2 := blk_frozen BK188.out 2
                                have p25 : 0 ≤ (x5_4 : Int) := of_decide_eq_true (by first | (with_reducible assumption) | assumption)
                                have q25 : x5_4 < (a0_2.size : Int) := of_decide_eq_true (by first | (with_reducible assumption) | assumption)
                                have hx25 := bt_at a0_2 x5_4
                                replace p25 := eq_true p25
                                replace q25 := eq_true q25
                                go_wp2
                                go_meet
                                case rel => exact ⟨_, (true), (by first | rfl | (simp; done) | (simp [*]; done) | (simp [*]; exact (fun (l_ : List UInt8) => (by cases l_ <;> rfl : l_.isEmpty = !(l_ != []))) _)), H', ⟨by have := HJ1.out; have := HJ8.out; have := HJ17.out; have := HK4.out; first | omega | exact Nat.le_refl _⟩, ⟨by (with_reducible repeat (first | refine blk_drewN ?_ _ | refine blk_drew ?_ | refine blk_alloc ?_ _)); exact BK188.out⟩, ⟨by repeat (first | (with_reducible first | exact HB.out | apply below_alloc | apply pw_below_drewN | apply below_drew1 | refine below_set ?_ GE188.out) | exact HB.out)⟩⟩
                              · rw [if_neg c26] at H
                                have c26b0 : decide ((bt a0_2 x5_4) < 48) = false := decide_eq_false c26
                                clear c26
                                have H' := Aside0.mk H
                                clear H
                                have hcz29_0 : wr.cell? ⟨gb188, 0, none⟩ = some (.int .i64 a0_0) := (blk_cell BK188.out 0).trans rfl
                                have hcz29_1 : wr.cell? ⟨gb188, 1, none⟩ = some (.int .i64 a0_1) := (blk_cell BK188.out 1).trans rfl
                                have hcz29_2 : wr.cell? ⟨gb188, 2, none⟩ = some (.string a0_2) := (blk_cell BK188.out 2).trans rfl
                                have hfz29_0 := blk_frozen BK188.out 0
                                have hfz29_1 := blk_frozen BK188.out 1
                                have hfz29_2 := blk_frozen BK188.out 2
                                have p25 : 0 ≤ (x5_4 : Int) := of_decide_eq_true (by first | (with_reducible assumption) | assumption)
                                have q25 : x5_4 < (a0_2.size : Int) := of_decide_eq_true (by first | (with_reducible assumption) | assumption)
                                have hx25 := bt_at a0_2 x5_4
                                replace p25 := eq_true p25
                                replace q25 := eq_true q25
                                have p28 : 0 ≤ (x5_4 : Int) := of_decide_eq_true (by first | (with_reducible assumption) | assumption)
                                have q28 : x5_4 < (a0_2.size : Int) := of_decide_eq_true (by first | (with_reducible assumption) | assumption)
                                have hx28 := bt_at a0_2 x5_4
                                replace p28 := eq_true p28
                                replace q28 := eq_true q28
                                go_wp2
                                go_meet
                                case rel => exact ⟨_, (decide ((bt a0_2 x5_4) > 57)), (by first | rfl | (simp; done) | (simp [*]; done) | (simp [*]; exact (fun (l_ : List UInt8) => (by cases l_ <;> rfl : l_.isEmpty = !(l_ != []))) _)), H', ⟨by have := HJ1.out; have := HJ8.out; have := HJ17.out; have := HK4.out; first | omega | exact Nat.le_refl _⟩, ⟨by (with_reducible repeat (first | refine blk_drewN ?_ _ | refine blk_drew ?_ | refine blk_alloc ?_ _)); exact BK188.out⟩, ⟨by repeat (first | (with_reducible first | exact HB.out | apply below_alloc | apply pw_below_drewN | apply below_drew1 | refine below_set ?_ GE188.out) | exact HB.out)⟩⟩
                            · rw [if_neg c24] at H
                              exact absurd H (by simp)
                          case rest =>
                            clear HC22
                            try clear c1
                            try clear p1
                            try clear q1
                            try clear hx1
                            try clear qi1
                            try clear c2
                            try clear p2
                            try clear q2
                            try clear hx2
                            try clear c4
                            try clear c4b0
                            try clear c4b1
                            try clear c7
                            try clear c10
                            try clear c10b0
                            try clear c10b1
                            try clear c11
                            try clear c11b0
                            try clear c11b1
                            try clear c15
                            try clear c16
                            try clear c16b0
                            try clear c16b1
                            try clear p17
                            try clear q17
                            try clear hx17
                            try clear qi17
                            try clear c20
                            try clear c20b0
                            try clear c20b1
                            try clear c21
                            try clear c21b0
                            try clear c23
                            try clear c24
                            try clear c24b0
                            try clear p25
                            try clear q25
                            try clear hx25
                            try clear c26
                            try clear c26b0
                            try clear p28
                            try clear q28
                            try clear hx28
                            try clear hcz12_0
                            try clear hcz12_1
                            try clear hcz12_2
                            try clear hcz13_0
                            try clear hcz13_1
                            try clear hcz13_2
                            try clear hcz14_0
                            try clear hcz14_1
                            try clear hcz14_2
                            try clear hcz19_0
                            try clear hcz19_1
                            try clear hcz19_2
                            try clear hcz23_0
                            try clear hcz23_1
                            try clear hcz23_2
                            try clear hcz27_0
                            try clear hcz27_1
                            try clear hcz27_2
                            try clear hcz29_0
                            try clear hcz29_1
                            try clear hcz29_2
                            try clear hcz5_0
                            try clear hcz5_1
                            try clear hcz5_2
                            try clear hcz6_0
                            try clear hcz6_1
                            try clear hcz6_2
                            try clear hcz8_0
                            try clear hcz8_1
                            try clear hcz8_2
                            try clear hfz12_0
                            try clear hfz12_1
                            try clear hfz12_2
                            try clear hfz13_0
                            try clear hfz13_1
                            try clear hfz13_2
                            try clear hfz14_0
                            try clear hfz14_1
                            try clear hfz14_2
                            try clear hfz19_0
                            try clear hfz19_1
                            try clear hfz19_2
                            try clear hfz23_0
                            try clear hfz23_1
                            try clear hfz23_2
                            try clear hfz27_0
                            try clear hfz27_1
                            try clear hfz27_2
                            try clear hfz29_0
                            try clear hfz29_1
                            try clear hfz29_2
                            try clear hfz5_0
                            try clear hfz5_1
                            try clear hfz5_2
                            try clear hfz6_0
                            try clear hfz6_1
                            try clear hfz6_2
                            try clear hfz8_0
                            try clear hfz8_1
                            try clear hfz8_2
                            try clear p1
                            try clear p17
                            try clear p2
                            try clear p25
                            try clear p28
                            try clear q1
                            try clear q17
                            try clear q25
                            try clear q28
                            obtain ⟨kq, x54_21, rfl, HA, HJ21, BK188, HB⟩ := hcut
                            cases kq with
                            | zero => exact absurd HA.out (by simp [gumshoeref06_Num.j4])
                            | succ kj21 =>
                              have H := HA.out
                              clear HA
                              simp only [gumshoeref06_Num.j4] at H
                              by_cases c30 : x54_21 = true
                              · subst c30
                                have H1 : (some 0) = some r := by rw [if_pos rfl] at H; exact H
                                clear H
                                have H := H1
                                clear H1
                                obtain rfl := Option.some.inj H
                                go_wp2
                                go_ret
                                exact ⟨by first | rfl | (simp [errW_none, errW_some] <;> rfl) | (simp [*, errW_none, errW_some] <;> rfl) | (simp [*, errW_none, errW_some]; exact (fun (l_ : List UInt8) => (by cases l_ <;> rfl : l_.isEmpty = !(l_ != []))) _), by repeat (first | (with_reducible first | exact HB.out | apply below_alloc | apply pw_below_drewN | apply below_drew1 | refine below_set ?_ GE188.out) | exact HB.out)⟩
                              · replace c30 := Bool.eq_false_iff.mpr c30
                                subst c30
                                have H1 : (if 0 ≤ x5_4 then (if x5_4 < (a0_2.size : Int) then (gumshoeref06_Num.l0 kj21 (wrap64 ((wrap64 (10 * x3_4)) + (((bt a0_2 x5_4) - 48) % 256))) x4_17 (wrap64 (x5_4 + 1)) a0_0 a0_1 a0_2) else (none)) else (none)) = some r := by rw [if_neg (show ¬ (false = true) by decide)] at H; exact H
                                clear H
                                have H := H1
                                clear H1
                                by_cases c31 : 0 ≤ x5_4
                                · rw [if_pos c31] at H
                                  have c31b0 : decide (0 ≤ x5_4) = true := decide_eq_true c31
                                  clear c31
                                  by_cases c32 : x5_4 < (a0_2.size : Int)
                                  · rw [if_pos c32] at H
                                    have c32b0 : decide (x5_4 < (a0_2.size : Int)) = true := decide_eq_true c32
                                    clear c32
                                    have H' := Aside0.mk H
                                    clear H
                                    have hcz34_0 : wc.cell? ⟨gb188, 0, none⟩ = some (.int .i64 a0_0) := (blk_cell BK188.out 0).trans rfl
                                    have hcz34_1 : wc.cell? ⟨gb188, 1, none⟩ = some (.int .i64 a0_1) := (blk_cell BK188.out 1).trans rfl
                                    have hcz34_2 : wc.cell? ⟨gb188, 2, none⟩ = some (.string a0_2) := (blk_cell BK188.out 2).trans rfl
                                    have hfz34_0 := blk_frozen BK188.out 0
                                    have hfz34_1 := blk_frozen BK188.out 1
                                    have hfz34_2 := blk_frozen BK188.out 2
                                    have p33 : 0 ≤ (x5_4 : Int) := of_decide_eq_true (by first | (with_reducible assumption) | assumption)
                                    have q33 : x5_4 < (a0_2.size : Int) := of_decide_eq_true (by first | (with_reducible assumption) | assumption)
                                    have hx33 := bt_at a0_2 x5_4
                                    replace p33 := eq_true p33
                                    replace q33 := eq_true q33
                                    go_wp2
                                    go_roundg kj21
                                    case measure => have := HJ1.out; have := HJ8.out; have := HJ17.out; have := HK4.out; have := HJ21.out; omega
                                    case rel => exact ⟨(wrap64 ((wrap64 (10 * x3_4)) + (((bt a0_2 x5_4) - 48) % 256))), (wrap64 (x5_4 + 1)), (by first | rfl | (simp; done) | (simp [*]; done) | (simp [*]; exact (fun (l_ : List UInt8) => (by cases l_ <;> rfl : l_.isEmpty = !(l_ != []))) _)), (by first | rfl | (simp; done) | (simp [*]; done) | (simp [*]; exact (fun (l_ : List UInt8) => (by cases l_ <;> rfl : l_.isEmpty = !(l_ != []))) _)), H', ⟨by have := HJ1.out; have := HJ8.out; have := HJ17.out; have := HK4.out; have := HJ21.out; omega⟩, ⟨by (with_reducible repeat (first | refine blk_drewN ?_ _ | refine blk_drew ?_ | refine blk_alloc ?_ _)); exact BK188.out⟩, ⟨by repeat (first | (with_reducible first | exact HB.out | apply below_alloc | apply pw_below_drewN | apply below_drew1 | refine below_set ?_ GE188.out) | exact HB.out)⟩⟩
                                  · rw [if_neg c32] at H
                                    exact absurd H (by simp)
                                · rw [if_neg c31] at H
                                  exact absurd H (by simp)
                        · rw [if_neg c21] at H
                          have c21b0 : decide (x5_4 < (a0_2.size : Int)) = false := decide_eq_false c21
                          clear c21
                          have HC35 := Aside0.mk H
                          clear H
                          have hcz36_0 : wr.cell? ⟨gb188, 0, none⟩ = some (.int .i64 a0_0) := (blk_cell BK188.out 0).trans rfl
                          have hcz36_1 : wr.cell? ⟨gb188, 1, none⟩ = some (.int .i64 a0_1) := (blk_cell BK188.out 1).trans rfl
                          have hcz36_2 : wr.cell? ⟨gb188, 2, none⟩ = some (.string a0_2) := (blk_cell BK188.out 2).trans rfl
                          have hfz36_0 := blk_frozen BK188.out 0
                          have hfz36_1 := blk_frozen BK188.out 1
                          have hfz36_2 := blk_frozen BK188.out 2
                          go_upto_if 65 with (fail)
                          go_cut [3] (fun v3 wc => ∃ (kq : Nat) (x3_34 : Int), v3 = .int .i64 x3_34 ∧ Aside0 (gumshoeref06_Num.j5 kq x3_34 a0_0 a0_1 a0_2 = some r) ∧ Aside0 (kq ≤ k4) ∧ Aside0 (wc.heap[gb188]? = some (.cells #[.int .i64 a0_0, .int .i64 a0_1, .string a0_2] 23 (0, 0))) ∧ Aside0 (Below w.heap.size w wc))
                          case first =>
                            have H := HC35.out
                            clear HC35
                            by_cases c37 : x4_17 = 1
                            · rw [if_pos c37] at H
                              have c37b0 : (x4_17 == 1) = true := beq_iff_eq.mpr c37
                              have c37b1 : (x4_17 != 1) = false := bne_eq_false_iff_eq.mpr c37
                              clear c37
                              (first | rw [c37b0] | (simp only [i64_w, i32_w]; rw [c37b0]) | skip)
                              have H' := Aside0.mk H
                              clear H
                              go_wp2
                              go_meet
                              case rel => exact ⟨_, (wrap64 (-x3_4)), (by first | rfl | (simp; done) | (simp [*]; done) | (simp [*]; exact (fun (l_ : List UInt8) => (by cases l_ <;> rfl : l_.isEmpty = !(l_ != []))) _)), H', ⟨by have := HJ1.out; have := HJ8.out; have := HJ17.out; have := HK4.out; first | omega | exact Nat.le_refl _⟩, ⟨by (with_reducible repeat (first | refine blk_drewN ?_ _ | refine blk_drew ?_ | refine blk_alloc ?_ _)); exact BK188.out⟩, ⟨by repeat (first | (with_reducible first | exact HB.out | apply below_alloc | apply pw_below_drewN | apply below_drew1 | refine below_set ?_ GE188.out) | exact HB.out)⟩⟩
                            · rw [if_neg c37] at H
                              have c37b0 : (x4_17 == 1) = false := beq_eq_false_iff_ne.mpr c37
                              have c37b1 : (x4_17 != 1) = true := bne_iff_ne.mpr c37
                              (first | rw [c37b0] | (simp only [i64_w, i32_w]; rw [c37b0]) | skip)
                              have H' := Aside0.mk H
                              clear H
                              go_wp2
                              go_meet
                              case rel => exact ⟨_, (x3_4), (by first | rfl | (simp; done) | (simp [*]; done) | (simp [*]; exact (fun (l_ : List UInt8) => (by cases l_ <;> rfl : l_.isEmpty = !(l_ != []))) _)), H', ⟨by have := HJ1.out; have := HJ8.out; have := HJ17.out; have := HK4.out; first | omega | exact Nat.le_refl _⟩, ⟨by (with_reducible repeat (first | refine blk_drewN ?_ _ | refine blk_drew ?_ | refine blk_alloc ?_ _)); exact BK188.out⟩, ⟨by repeat (first | (with_reducible first | exact HB.out | apply below_alloc | apply pw_below_drewN | apply below_drew1 | refine below_set ?_ GE188.out) | exact HB.out)⟩⟩
                          case rest =>
                            clear HC35
                            try clear c1
                            try clear p1
                            try clear q1
                            try clear hx1
                            try clear qi1
                            try clear c2
                            try clear p2
                            try clear q2
                            try clear hx2
                            try clear c3
                            try clear p3
                            try clear q3
                            try clear hx3
                            try clear c4
                            try clear c4b0
                            try clear c4b1
                            try clear p6
                            try clear c7
                            try clear c10
                            try clear c10b0
                            try clear c10b1
                            try clear c11
                            try clear c11b0
                            try clear c11b1
                            try clear c15
                            try clear c16
                            try clear c16b0
                            try clear c16b1
                            try clear p17
                            try clear q17
                            try clear hx17
                            try clear qi17
                            try clear c20
                            try clear c20b0
                            try clear c20b1
                            try clear c21
                            try clear c21b0
                            try clear c23
                            try clear c24
                            try clear c24b0
                            try clear p25
                            try clear q25
                            try clear hx25
                            try clear c26
                            try clear c26b0
                            try clear p28
                            try clear q28
                            try clear hx28
                            try clear c30
                            try clear c31
                            try clear c31b0
                            try clear c32
                            try clear c32b0
                            try clear p33
                            try clear q33
                            try clear hx33
                            try clear c37
                            try clear c37b0
                            try clear c37b1
                            try clear hcz12_0
                            try clear hcz12_1
                            try clear hcz12_2
                            try clear hcz13_0
                            try clear hcz13_1
                            try clear hcz13_2
                            try clear hcz14_0
                            try clear hcz14_1
                            try clear hcz14_2
                            try clear hcz19_0
                            try clear hcz19_1
                            try clear hcz19_2
                            try clear hcz23_0
                            try clear hcz23_1
                            try clear hcz23_2
                            try clear hcz27_0
                            try clear hcz27_1
                            try clear hcz27_2
                            try clear hcz29_0
                            try clear hcz29_1
                            try clear hcz29_2
                            try clear hcz34_0
                            try clear hcz34_1
                            try clear hcz34_2
                            try clear hcz36_0
                            try clear hcz36_1
                            try clear hcz36_2
                            try clear hcz5_0
                            try clear hcz5_1
                            try clear hcz5_2
                            try clear hcz6_0
                            try clear hcz6_1
                            try clear hcz6_2
                            try clear hcz8_0
                            try clear hcz8_1
                            try clear hcz8_2
                            try clear hfz12_0
                            try clear hfz12_1
                            try clear hfz12_2
                            try clear hfz13_0
                            try clear hfz13_1
                            try clear hfz13_2
                            try clear hfz14_0
                            try clear hfz14_1
                            try clear hfz14_2
                            try clear hfz19_0
                            try clear hfz19_1
                            try clear hfz19_2
                            try clear hfz23_0
                            try clear hfz23_1
                            try clear hfz23_2
                            try clear hfz27_0
                            try clear hfz27_1
                            try clear hfz27_2
                            try clear hfz29_0
                            try clear hfz29_1
                            try clear hfz29_2
                            try clear hfz34_0
                            try clear hfz34_1
                            try clear hfz34_2
                            try clear hfz36_0
                            try clear hfz36_1
                            try clear hfz36_2
                            try clear hfz5_0
                            try clear hfz5_1
                            try clear hfz5_2
                            try clear hfz6_0
                            try clear hfz6_1
                            try clear hfz6_2
                            try clear hfz8_0
                            try clear hfz8_1
                            try clear hfz8_2
                            try clear p1
                            try clear p17
                            try clear p2
                            try clear p25
                            try clear p28
                            try clear p33
                            try clear q1
                            try clear q17
                            try clear q2
                            try clear q25
                            try clear q28
                            try clear q33
                            obtain ⟨kq, x3_34, rfl, HA, HJ34, BK188, HB⟩ := hcut
                            cases kq with
                            | zero => exact absurd HA.out (by simp [gumshoeref06_Num.j5])
                            | succ kj34 =>
                              have H := HA.out
                              clear HA
                              simp only [gumshoeref06_Num.j5] at H
                              replace H := Option.bind_eq_some_iff.mp H
                              obtain ⟨t189, A380, H⟩ := H
                              replace H : (if t189.toList = a0_2.toList then (some x3_34) else (some 0)) = some r := H
                              have A38 := Aside0.mk A380
                              clear A380
                              by_cases c39 : t189.toList = a0_2.toList
                              · rw [if_pos c39] at H
                                have c39b0 : (t189.toList == a0_2.toList) = true := beq_iff_eq.mpr c39
                                have c39b1 : (t189.toList != a0_2.toList) = false := bne_eq_false_iff_eq.mpr c39
                                clear c39
                                obtain rfl := Option.some.inj H
                                try go_wp2
                                have n0_ := Aside0.mk (blk_drew BK188.out)
                                have n1_ := Aside0.mk (below_drew1 HB.out)
                                clear BK188
                                clear HB
                                have BK188 := n0_
                                have HB := n1_
                                clear n0_ n1_
                                refine start_ (n := 5) (S := fun w' => w'.cell? ⟨gb188, 0, none⟩ = some (.int .i64 a0_0) ∧ w'.cell? ⟨gb188, 1, none⟩ = some (.int .i64 a0_1) ∧ w'.cell? ⟨gb188, 2, none⟩ = some (.string a0_2)) (ds := []) #[false, false, false, false, false] (by kernel_rfl) rfl rfl ⟨(blk_cell BK188.out 0).trans rfl, (blk_cell BK188.out 1).trans rfl, (blk_cell BK188.out 2).trans rfl⟩ (fun hHeld => ?_)
                                generalize wc.drew = w40 at BK188 HB hHeld ⊢
                                refine pure_ (i := 0) (N := some 68) (v := ?_) (a' := ?_) #[true, false, false, false, false] rfl rfl (by kernel_rfl) (fun _ _ _ h => h) (Or.inl ⟨by rfl, ?_⟩) ?_ ?_
                                rotate_left
                                · intro w'
                                  go_simp
                                  with_reducible rfl
                                rotate_left
                                · simp only [Act.put, List.setIfInBounds_toArray, List.set_cons_zero, List.set_cons_succ, i64_w, i32_w]
                                  rfl
                                refine pure_ (i := 2) (N := some 70) (v := ?_) (a' := ?_) #[true, false, true, false, false] rfl rfl (by kernel_rfl) (fun _ _ _ h => h) (Or.inl ⟨by rfl, ?_⟩) ?_ ?_
                                rotate_left
                                · intro w'
                                  go_simp
                                  with_reducible rfl
                                rotate_left
                                · simp only [Act.put, List.setIfInBounds_toArray, List.set_cons_zero, List.set_cons_succ, i64_w, i32_w]
                                  rfl
                                refine take_ (i := 3) (N := some 71) (v := ?_) (a' := ?_) #[true, false, true, true, false] rfl rfl (by kernel_rfl) (fun _ _ _ h => h) (Or.inl ⟨by rfl, ?_⟩) hHeld ?_ ?_
                                rotate_left
                                · rintro w' ⟨s0, s1, s2⟩
                                  go_simp
                                  with_reducible rfl
                                rotate_left
                                · simp only [Act.put, List.setIfInBounds_toArray, List.set_cons_zero, List.set_cons_succ, i64_w, i32_w]
                                  rfl
                                refine one_ (i := 1) (N := some 69) #[true, true, true, true, false] rfl rfl (by kernel_rfl) (by decide) (fun K hK => ?_)
                                refine goes_ Tryd.func36 (by kernel_rfl) rfl #[.int .i64 x3_34] (by rfl) rfl rfl (by (try simp only [List.map_toArray, List.map_cons, List.map_nil]); first | done | rfl | (simp only [List.length_drop, List.length_take]; rfl)) ?_
                                with_reducible refine (gumshoeref06_digits.calls kj34 x3_34 t189 _ A38.out).mono ?_
                                rintro e w41 ⟨rfl, hb⟩
                                refine ⟨_, rfl, ?_⟩
                                have n0_ := Aside0.mk (blk_below (g := gb188) (o := .cells #[.int .i64 a0_0, .int .i64 a0_1, .string a0_2] 23 (0, 0)) (by (with_reducible repeat (first | refine blk_drewN ?_ _ | refine blk_drew ?_ | refine blk_alloc ?_ _)); exact BK188.out) hb)
                                have n1_ := Aside0.mk (below_step (by repeat (first | (with_reducible first | exact HB.out | apply below_alloc | apply pw_below_drewN | apply below_drew1 | refine below_set ?_ GE188.out) | exact HB.out)) hb)
                                clear BK188
                                clear HB
                                have BK188 := n0_
                                have HB := n1_
                                clear n0_ n1_
                                (try clear hb)
                                (try clear hb2)
                                (try clear hk)
                                (try clear hi)
                                refine hK.out _ _ ⟨(blk_cell BK188.out 0).trans rfl, (blk_cell BK188.out 1).trans rfl, (blk_cell BK188.out 2).trans rfl⟩ (fun hHeld => ?_)
                                clear hK K
                                refine norm_ (a' := ?_) ?_ ?_
                                rotate_left
                                · show Act.put _ (some 69) _ = _
                                  simp only [Act.put, List.setIfInBounds_toArray, List.set_cons_zero, List.set_cons_succ, i64_w, i32_w]
                                  rfl
                                refine pure_ (i := 4) (N := some 72) (v := ?_) (a' := ?_) #[true, true, true, true, true] rfl rfl (by kernel_rfl) (fun _ _ _ h => h) (Or.inl ⟨by rfl, ?_⟩) ?_ ?_
                                rotate_left
                                · intro w'
                                  go_simp
                                  with_reducible rfl
                                rotate_left
                                · simp only [Act.put, List.setIfInBounds_toArray, List.set_cons_zero, List.set_cons_succ, i64_w, i32_w]
                                  rfl
                                refine done_ (by kernel_rfl) ?_
                                try go_wp2
                                go_ret
                                exact ⟨by first | rfl | (simp [errW_none, errW_some] <;> rfl) | (simp [*, errW_none, errW_some] <;> rfl) | (simp [*, errW_none, errW_some]; exact (fun (l_ : List UInt8) => (by cases l_ <;> rfl : l_.isEmpty = !(l_ != []))) _), by repeat (first | (with_reducible first | exact HB.out | apply below_alloc | apply pw_below_drewN | apply below_drew1 | refine below_set ?_ GE188.out) | exact HB.out)⟩
                              · rw [if_neg c39] at H
                                have c39b0 : (t189.toList == a0_2.toList) = false := beq_eq_false_iff_ne.mpr c39
                                have c39b1 : (t189.toList != a0_2.toList) = true := bne_iff_ne.mpr c39
                                obtain rfl := Option.some.inj H
                                try go_wp2
                                have n0_ := Aside0.mk (blk_drew BK188.out)
                                have n1_ := Aside0.mk (below_drew1 HB.out)
                                clear BK188
                                clear HB
                                have BK188 := n0_
                                have HB := n1_
                                clear n0_ n1_
                                refine start_ (n := 5) (S := fun w' => w'.cell? ⟨gb188, 0, none⟩ = some (.int .i64 a0_0) ∧ w'.cell? ⟨gb188, 1, none⟩ = some (.int .i64 a0_1) ∧ w'.cell? ⟨gb188, 2, none⟩ = some (.string a0_2)) (ds := []) #[false, false, false, false, false] (by kernel_rfl) rfl rfl ⟨(blk_cell BK188.out 0).trans rfl, (blk_cell BK188.out 1).trans rfl, (blk_cell BK188.out 2).trans rfl⟩ (fun hHeld => ?_)
                                generalize wc.drew = w42 at BK188 HB hHeld ⊢
                                refine pure_ (i := 0) (N := some 68) (v := ?_) (a' := ?_) #[true, false, false, false, false] rfl rfl (by kernel_rfl) (fun _ _ _ h => h) (Or.inl ⟨by rfl, ?_⟩) ?_ ?_
                                rotate_left
                                · intro w'
                                  go_simp
                                  with_reducible rfl
                                rotate_left
                                · simp only [Act.put, List.setIfInBounds_toArray, List.set_cons_zero, List.set_cons_succ, i64_w, i32_w]
                                  rfl
                                refine pure_ (i := 2) (N := some 70) (v := ?_) (a' := ?_) #[true, false, true, false, false] rfl rfl (by kernel_rfl) (fun _ _ _ h => h) (Or.inl ⟨by rfl, ?_⟩) ?_ ?_
                                rotate_left
                                · intro w'
                                  go_simp
                                  with_reducible rfl
                                rotate_left
                                · simp only [Act.put, List.setIfInBounds_toArray, List.set_cons_zero, List.set_cons_succ, i64_w, i32_w]
                                  rfl
                                refine take_ (i := 3) (N := some 71) (v := ?_) (a' := ?_) #[true, false, true, true, false] rfl rfl (by kernel_rfl) (fun _ _ _ h => h) (Or.inl ⟨by rfl, ?_⟩) hHeld ?_ ?_
                                rotate_left
                                · rintro w' ⟨s0, s1, s2⟩
                                  go_simp
                                  with_reducible rfl
                                rotate_left
                                · simp only [Act.put, List.setIfInBounds_toArray, List.set_cons_zero, List.set_cons_succ, i64_w, i32_w]
                                  rfl
                                refine one_ (i := 1) (N := some 69) #[true, true, true, true, false] rfl rfl (by kernel_rfl) (by decide) (fun K hK => ?_)
                                refine goes_ Tryd.func36 (by kernel_rfl) rfl #[.int .i64 x3_34] (by rfl) rfl rfl (by (try simp only [List.map_toArray, List.map_cons, List.map_nil]); first | done | rfl | (simp only [List.length_drop, List.length_take]; rfl)) ?_
                                with_reducible refine (gumshoeref06_digits.calls kj34 x3_34 t189 _ A38.out).mono ?_
                                rintro e w43 ⟨rfl, hb⟩
                                refine ⟨_, rfl, ?_⟩
                                have n0_ := Aside0.mk (blk_below (g := gb188) (o := .cells #[.int .i64 a0_0, .int .i64 a0_1, .string a0_2] 23 (0, 0)) (by (with_reducible repeat (first | refine blk_drewN ?_ _ | refine blk_drew ?_ | refine blk_alloc ?_ _)); exact BK188.out) hb)
                                have n1_ := Aside0.mk (below_step (by repeat (first | (with_reducible first | exact HB.out | apply below_alloc | apply pw_below_drewN | apply below_drew1 | refine below_set ?_ GE188.out) | exact HB.out)) hb)
                                clear BK188
                                clear HB
                                have BK188 := n0_
                                have HB := n1_
                                clear n0_ n1_
                                (try clear hb)
                                (try clear hb2)
                                (try clear hk)
                                (try clear hi)
                                refine hK.out _ _ ⟨(blk_cell BK188.out 0).trans rfl, (blk_cell BK188.out 1).trans rfl, (blk_cell BK188.out 2).trans rfl⟩ (fun hHeld => ?_)
                                clear hK K
                                refine norm_ (a' := ?_) ?_ ?_
                                rotate_left
                                · show Act.put _ (some 69) _ = _
                                  simp only [Act.put, List.setIfInBounds_toArray, List.set_cons_zero, List.set_cons_succ, i64_w, i32_w]
                                  rfl
                                refine pure_ (i := 4) (N := some 72) (v := ?_) (a' := ?_) #[true, true, true, true, true] rfl rfl (by kernel_rfl) (fun _ _ _ h => h) (Or.inl ⟨by rfl, ?_⟩) ?_ ?_
                                rotate_left
                                · intro w'
                                  go_simp
                                  with_reducible rfl
                                rotate_left
                                · simp only [Act.put, List.setIfInBounds_toArray, List.set_cons_zero, List.set_cons_succ, i64_w, i32_w]
                                  rfl
                                refine done_ (by kernel_rfl) ?_
                                try go_wp2
                                go_ret
                                exact ⟨by first | rfl | (simp [errW_none, errW_some] <;> rfl) | (simp [*, errW_none, errW_some] <;> rfl) | (simp [*, errW_none, errW_some]; exact (fun (l_ : List UInt8) => (by cases l_ <;> rfl : l_.isEmpty = !(l_ != []))) _), by repeat (first | (with_reducible first | exact HB.out | apply below_alloc | apply pw_below_drewN | apply below_drew1 | refine below_set ?_ GE188.out) | exact HB.out)⟩
              · rw [if_neg c16] at H
                exact absurd H (by simp)
end Go.Proofs.YtmdchbenalhpjaaDoor.Pr

/- Closed forms: gumshoeref06's digits and number; value's small functions. No condition. -/
namespace Go.Proofs.YtmdchbenalhpjaaDoor.Va
open Go.RowKit Go.Proofs.YtmdchbenalhpjaaDoorW.PrintWords Go.Proofs.YtmdchbenalhpjaaDoorW.PrintLast Go.Proofs.YtmdchbenalhpjaaDoorW.PrintMore Go.Proofs.YtmdchbenalhpjaaDoor.Pr Go.Proofs.YtmdchbenalhpjaaDoor.Ev
set_option linter.unusedVariables false
set_option linter.unusedSimpArgs false
def dec0 (u : Nat) : List UInt8 := if u = 0 then [] else Lib.decDigits u
theorem dec0_step (u : Nat) (h : 0 < u) : dec0 u = dec0 (u / 10) ++ [UInt8.ofNat (48 + u % 10)] := by
  unfold dec0
  rw [if_neg (by omega), Lib.decDigits]
  by_cases h1 : u < 10
  · rw [dif_pos h1, if_pos (by omega), show u % 10 = u by omega]; rfl
  · rw [dif_neg h1, if_neg (by omega)]
theorem str_one (n : Nat) (h : n < 256) : strOfNums [(n : Int)] = ⟨#[UInt8.ofNat n]⟩ := by
  simp [strOfNums]
theorem cat_list (a b : List UInt8) : (⟨a.toArray⟩ : ByteArray) ++ ⟨b.toArray⟩ = ⟨(a ++ b).toArray⟩ := by
  apply ByteArray.ext
  simp [ByteArray.data_append]
theorem dig_val (u : Nat) (h : u < 18446744073709551616) : (IntKind.u64.wrap (48 + (Int.tmod (u : Int) 10))) % 256 = ((48 + u % 10 : Nat) : Int) := by
  have : Int.tmod (u : Int) 10 = ((u % 10 : Nat) : Int) := by rw [Int.tmod_eq_emod_of_nonneg (by omega)]; omega
  rw [this]
  simp [IntKind.wrap, IntKind.bits, IntKind.signed]
  omega
theorem digits_loop (n : Int) : ∀ (u : Nat) (t : List UInt8), u < 18446744073709551616 → t.length + (dec0 u).length ≤ 100 → Ev fun k => gumshoeref06_digits.l0 k n ⟨t.toArray⟩ (u : Int) = some ⟨((if n < 0 then [45] else []) ++ dec0 u ++ t).toArray⟩ := by
  intro u
  induction u using Nat.strongRecOn with
  | _ u ih =>
    intro t hu ht
    by_cases h0 : u = 0
    · subst h0
      refine Ev.step fun k => ?_
      have hts : (⟨t.toArray⟩ : ByteArray).size = t.length := by simp [ByteArray.size]
      have hd : dec0 0 = [] := rfl
      rw [gumshoeref06_digits.l0, if_neg (by omega), hd]
      by_cases hn : n < 0
      · rw [if_pos hn, if_pos (by omega), if_pos hn]
        congr 1
      · rw [if_neg hn, if_neg hn]; rfl
    · have hs := dec0_step u (by omega)
      have hl : (dec0 u).length = (dec0 (u / 10)).length + 1 := by rw [hs]; simp
      refine (ih (u / 10) (by omega) (UInt8.ofNat (48 + u % 10) :: t) (by omega) (by simp; omega)).succ fun k hk => ?_
      have hq : IntKind.u64.wrap (Int.tdiv (u : Int) 10) = ((u / 10 : Nat) : Int) := by
        rw [Int.tdiv_eq_ediv_of_nonneg (by omega)]
        simp [IntKind.wrap, IntKind.bits, IntKind.signed]
        omega
      have hsz : (⟨#[UInt8.ofNat (48 + u % 10)]⟩ : ByteArray).size = 1 := rfl
      have hts : (⟨t.toArray⟩ : ByteArray).size = t.length := by simp [ByteArray.size]
      have hc : (⟨#[UInt8.ofNat (48 + u % 10)]⟩ : ByteArray) ++ ⟨t.toArray⟩ = ⟨(UInt8.ofNat (48 + u % 10) :: t).toArray⟩ := cat_list [UInt8.ofNat (48 + u % 10)] t
      rw [gumshoeref06_digits.l0, if_pos (by omega), Option.bind_some, dig_val u hu, str_one _ (by omega), hsz, hts, if_pos (by omega), hq, hc, hk, hs]
      simp
theorem dec0_len (u : Nat) (h : u < 18446744073709551616) : (dec0 u).length ≤ 20 := by
  unfold dec0
  split
  · simp
  · have := (Lib.numDigits_eq u (by omega) h).1
    have := (Lib.numDigits_eq u (by omega) h).2
    rw [Lib.decDigits_length]
    split at * <;> omega
theorem digits_tells (n : Int) (h : I64 n) : Ev fun k => gumshoeref06_digits.f k n = some ⟨(Lib.itoa n).toArray⟩ := by
  obtain ⟨h1, h2⟩ := h
  by_cases h0 : n = 0
  · subst h0
    refine Ev.all fun k => ?_
    rw [gumshoeref06_digits.f, if_pos rfl, show (0 : Int) = ((0 : Nat) : Int) from rfl, Lib.itoa_nonneg, Lib.decDigits_one (by omega)]
    rfl
  · by_cases hn : n < 0
    · obtain ⟨u, rfl⟩ : ∃ u : Nat, n = -(u : Int) := ⟨n.natAbs, by omega⟩
      have hw : IntKind.u64.wrap (-(IntKind.u64.wrap (-(u : Int)))) = (u : Int) := by
        simp [IntKind.wrap, IntKind.bits, IntKind.signed]
        omega
      refine (digits_loop (-(u : Int)) u [] (by omega) (by have := dec0_len u (by omega); simp; omega)).succ fun k hk => ?_
      rw [gumshoeref06_digits.f, if_neg h0, if_pos hn, gumshoeref06_digits.j0, hw]
      refine hk.trans ?_
      rw [Lib.itoa_neg u (by omega), if_pos hn]
      unfold dec0
      rw [if_neg (by omega)]
      simp
    · obtain ⟨u, rfl⟩ : ∃ u : Nat, n = (u : Int) := ⟨n.toNat, by omega⟩
      have hw : IntKind.u64.wrap (u : Int) = (u : Int) := by
        simp [IntKind.wrap, IntKind.bits, IntKind.signed]
        omega
      refine (digits_loop (u : Int) u [] (by omega) (by have := dec0_len u (by omega); simp; omega)).succ fun k hk => ?_
      rw [gumshoeref06_digits.f, if_neg h0, if_neg hn, gumshoeref06_digits.j0, hw]
      refine hk.trans ?_
      rw [Lib.itoa_nonneg u, if_neg hn]
      unfold dec0
      rw [if_neg (by omega)]
      simp
/-! ### the number of a text -/
def isDig (b : UInt8) : Bool := decide (48 ≤ b.toNat ∧ b.toNat ≤ 57)
def acc (a : Int) (l : List UInt8) : Int := l.foldl (fun x b => wrap64 (wrap64 (10 * x) + ((b.toNat : Int) - 48))) a
def finN (s : List UInt8) (n : Int) : Int := if Lib.itoa n = s then n else 0
theorem wrap_i64 (x : Int) : I64 (wrap64 x) := by unfold I64 wrap64; omega
theorem bt_getD (s : ByteArray) (i : Nat) (h : i < s.size) : bt s (i : Int) = ((s.data.toList.getD i 0).toNat : Int) := by
  unfold bt
  rw [dif_pos (by simpa using h)]
  have := byte_at s i h
  rw [getD_byte s i h] at this
  rw [← this]
  simp
theorem j5_tells (s : ByteArray) (K N n : Int) (h : I64 n) : Ev fun k => gumshoeref06_Num.j5 k n K N s = some (finN s.data.toList n) := by
  refine (digits_tells n h).succ fun k hk => ?_
  rw [gumshoeref06_Num.j5, hk, Option.bind_some]
  unfold finN
  have e : (⟨(Lib.itoa n).toArray⟩ : ByteArray).toList = Lib.itoa n := by rw [ByteArray.toList_eq]
  rw [e, ByteArray.toList_eq]
  split <;> rfl
def loopV (s : List UInt8) (x4 x3 : Int) (l : List UInt8) : Int := if l.all isDig = true then finN s (if x4 = 1 then wrap64 (-(acc x3 l)) else acc x3 l) else 0
theorem num_loop (s : ByteArray) (K N x4 : Int) (hz : s.size ≤ 20) (d : Nat) : ∀ (i : Nat) (x3 : Int), i + d = s.size → I64 x3 → Ev fun k => gumshoeref06_Num.l0 k x3 x4 (i : Int) K N s = some (loopV s.data.toList x4 x3 (s.data.toList.drop i)) := by
  have hl : s.data.toList.length = s.size := rfl
  induction d with
  | zero =>
    intro i x3 hi hx
    have hd : s.data.toList.drop i = [] := List.drop_eq_nil_of_le (by omega)
    rw [hd]
    unfold loopV
    rw [if_pos (by rfl)]
    by_cases h4 : x4 = 1
    · rw [if_pos h4]
      refine (j5_tells s K N (wrap64 (-x3)) (wrap_i64 _)).succ fun k hk => ?_
      rw [gumshoeref06_Num.l0, if_neg (by omega), if_pos h4, hk]
      rfl
    · rw [if_neg h4]
      refine (j5_tells s K N x3 hx).succ fun k hk => ?_
      rw [gumshoeref06_Num.l0, if_neg (by omega), if_neg h4, hk]
      rfl
  | succ d ih =>
    intro i x3 hi hx
    have hlt : i < s.size := by omega
    have hb := bt_getD s i hlt
    rw [drop_at s.data.toList i 0 (by omega)]
    generalize hc : s.data.toList.getD i 0 = c at *
    by_cases hdg : 48 ≤ c.toNat ∧ c.toNat ≤ 57
    · have hw : ((bt s (i : Int) - 48) % 256) = (c.toNat : Int) - 48 := by rw [hb]; omega
      have hs : wrap64 ((i : Int) + 1) = ((i + 1 : Nat) : Int) := wrap_nat i (by omega)
      refine (ih (i + 1) (wrap64 (wrap64 (10 * x3) + ((c.toNat : Int) - 48))) (by omega) (wrap_i64 _)).succ (q := fun k => gumshoeref06_Num.j4 k x3 x4 (i : Int) false K N s = some (loopV s.data.toList x4 x3 (c :: s.data.toList.drop (i + 1)))) (fun k hk => ?_) |>.succ fun k hk => ?_
      · rw [gumshoeref06_Num.j4, if_neg (by decide), if_pos (by omega), if_pos (by omega), hw, hs, hk]
        unfold loopV
        simp only [List.all_cons, isDig, decide_eq_true hdg, Bool.true_and]
        rfl
      · rw [gumshoeref06_Num.l0, if_pos (by omega), if_pos (by omega), if_neg (by omega), decide_eq_false (by omega), hk]
    · have hv : loopV s.data.toList x4 x3 (c :: s.data.toList.drop (i + 1)) = 0 := by
        unfold loopV
        rw [if_neg (by simp only [List.all_cons, isDig, decide_eq_false hdg, Bool.false_and]; decide)]
      rw [hv]
      refine (Ev.step (q := fun k => gumshoeref06_Num.j4 k x3 x4 (i : Int) true K N s = some 0) fun k => by rw [gumshoeref06_Num.j4, if_pos rfl]).succ fun k hk => ?_
      rw [gumshoeref06_Num.l0, if_pos (by omega), if_pos (by omega)]
      by_cases h48 : bt s (i : Int) < 48
      · rw [if_pos h48, hk]
      · rw [if_neg h48, decide_eq_true (by omega), hk]
theorem wrap_off (x : Int) : ∃ k : Int, wrap64 x = x + 18446744073709551616 * k := ⟨-((x + 9223372036854775808) / 18446744073709551616), by
  unfold wrap64
  have := Int.emod_add_mul_ediv (x + 9223372036854775808) 18446744073709551616
  omega⟩
theorem wrap_add (x k : Int) : wrap64 (x + 18446744073709551616 * k) = wrap64 x := by
  unfold wrap64
  rw [show x + 18446744073709551616 * k + 9223372036854775808 = (x + 9223372036854775808) + 18446744073709551616 * k by omega, Int.add_mul_emod_self_left]
theorem wrap_step (q r : Int) : wrap64 (wrap64 (10 * wrap64 q) + r) = wrap64 (10 * q + r) := by
  obtain ⟨k, hk⟩ := wrap_off q
  obtain ⟨m, hm⟩ := wrap_off (10 * wrap64 q)
  rw [hm, hk, show 10 * (q + 18446744073709551616 * k) + 18446744073709551616 * m + r = (10 * q + r) + 18446744073709551616 * (10 * k + m) by omega, wrap_add]
theorem wrap_zero : wrap64 (10 * 0) = 0 := by rw [Int.mul_zero]; exact wrap_id 0 (by omega) (by omega)
theorem dig_int (v : Nat) (h : v < 10) : (((UInt8.ofNat (48 + v)).toNat : Int) - 48) = (v : Int) := by
  rw [byte_toNat _ (by omega)]
  omega
theorem acc_snoc (a : Int) (l : List UInt8) (b : UInt8) : acc a (l ++ [b]) = wrap64 (wrap64 (10 * acc a l) + ((b.toNat : Int) - 48)) := by
  unfold acc
  rw [List.foldl_append]
  rfl
theorem ten_split (u : Nat) : 10 * ((u / 10 : Nat) : Int) + ((u % 10 : Nat) : Int) = (u : Int) := by omega
theorem acc_dec (u : Nat) : acc 0 (Lib.decDigits u) = wrap64 (u : Int) := by
  induction u using Nat.strongRecOn with
  | _ u ih =>
    rw [Lib.decDigits]
    by_cases h : u < 10
    · rw [dif_pos h]
      have := acc_snoc 0 [] (UInt8.ofNat (48 + u))
      rw [List.nil_append] at this
      rw [this, dig_int u h]
      have e : acc 0 [] = 0 := rfl
      rw [e, wrap_zero, Int.zero_add]
    · rw [dif_neg h, acc_snoc, ih (u / 10) (by omega), dig_int (u % 10) (by omega), wrap_step, ten_split]
theorem dec_all (u : Nat) : (Lib.decDigits u).all isDig = true := List.all_eq_true.2 fun c hc => decide_eq_true (dec_digit u c hc)
theorem neg_wrap (u : Nat) (h : u ≤ 9223372036854775808) : wrap64 (-(wrap64 (u : Int))) = -(u : Int) := by
  unfold wrap64
  omega
theorem pos_wrap (u : Nat) (h : u < 9223372036854775808) : wrap64 (u : Int) = (u : Int) := by
  unfold wrap64
  omega
theorem loop_num (s : List UInt8) (c : UInt8) (r : List UInt8) (hs : s = c :: r) : loopV s (if c.toNat = 45 then 1 else 0) 0 (if c.toNat = 45 then r else s) = numL s := by
  by_cases hex : ∃ n, I64 n ∧ Lib.itoa n = s
  · obtain ⟨n, hn, rfl⟩ := hex
    rw [numL_itoa n hn]
    obtain ⟨h1, h2⟩ := hn
    by_cases h0 : n < 0
    · obtain ⟨u, rfl⟩ : ∃ u : Nat, n = -(u : Int) := ⟨n.natAbs, by omega⟩
      have hi := Lib.itoa_neg u (by omega)
      rw [hi] at hs
      injection hs with hc hr
      subst hc hr
      rw [if_pos (by rfl), if_pos (by rfl)]
      unfold loopV
      rw [if_pos (dec_all u), if_pos rfl, acc_dec u, neg_wrap u (by omega)]
      unfold finN
      rw [if_pos rfl]
    · obtain ⟨u, rfl⟩ : ∃ u : Nat, n = (u : Int) := ⟨n.toNat, by omega⟩
      have hi := Lib.itoa_nonneg u
      have hc : 48 ≤ c.toNat ∧ c.toNat ≤ 57 := dec_digit u c (by rw [← hi, hs]; exact List.mem_cons_self)
      rw [if_neg (by omega), if_neg (by omega), hi]
      unfold loopV
      rw [if_pos (dec_all u), if_neg (by decide), acc_dec u, pos_wrap u (by omega)]
      unfold finN
      rw [if_pos hi]
  · have h0 : ∀ n, I64 n → finN s n = 0 := fun n hn => by unfold finN; rw [if_neg (fun e => hex ⟨n, hn, e⟩)]
    rw [numL_not s (fun n hn e => hex ⟨n, hn, e⟩)]
    have hacc : ∀ l, I64 (acc 0 l) := fun l => by
      by_cases hl : l = []
      · rw [hl]; exact (show I64 0 from ⟨by omega, by omega⟩)
      · rw [← List.dropLast_concat_getLast hl, acc_snoc]; exact wrap_i64 _
    generalize (if c.toNat = 45 then r else s) = l
    generalize (if c.toNat = 45 then (1 : Int) else 0) = x
    unfold loopV
    by_cases hl : l.all isDig = true
    · rw [if_pos hl]
      by_cases hx : x = 1
      · rw [if_pos hx]; exact h0 _ (wrap_i64 _)
      · rw [if_neg hx]; exact h0 _ (hacc _)
    · rw [if_neg hl]
end Go.Proofs.YtmdchbenalhpjaaDoor.Va

-- WRITTEN BY hprint.py (a patched scratch copy of print.py, see NOTES.md): out of the translation and of contracts proved by hand.
namespace Go.Proofs.YtmdchbenalhpjaaDoor.Pr
open Go.RowKit Go.Proofs.YtmdchbenalhpjaaDoor.Va Go.Proofs.YtmdchbenalhpjaaDoorW.PrintWords Go.Proofs.YtmdchbenalhpjaaDoorW.PrintLast Go.Proofs.YtmdchbenalhpjaaDoorW.PrintMore
set_option linter.unusedVariables false
set_option linter.unusedSimpArgs false
/-! ### value_Key: function 15 -/
def value_Key.f (a0_0 : Int) (a0_1 : Int) (a0_2 : ByteArray) : Option (ByteArray) := if a0_0 = 0 then (some (⟨#[117, 110, 100, 101, 102, 105, 110, 101, 100]⟩ : ByteArray)) else (if a0_0 = 1 then (some (⟨#[110, 117, 108, 108]⟩ : ByteArray)) else (if a0_0 = 2 then ((strconv_FormatBool.f (a0_1 == 1)).bind fun t102 => (some t102)) else (if a0_0 = 3 then ((strconv_FormatInt.f a0_1 10).bind fun t103 => (some t103)) else (if a0_0 = 4 then (some a0_2) else (some (⟨#[91, 111, 98, 106, 101, 99, 116, 93]⟩ : ByteArray))))))
set_option maxHeartbeats 8000000 in
set_option maxRecDepth 100000 in
theorem value_Key.calls (a0_0 : Int) (a0_1 : Int) (a0_2 : ByteArray) (r : ByteArray) (w : World) (hL : Laid w) (h : value_Key.f a0_0 a0_1 a0_2 = some r) :
    Calls Tryd.prog 15 #[.agg #[.int .i64 a0_0, .int .i64 a0_1, .string a0_2]] w fun e w' => e = .returned (.string r) ∧ Below w.heap.size w w' := by
  have HL := Aside0.mk hL
  clear hL
  have hu23 := Tryd.underlying23
  have HB := Aside0.mk (Below.refl w.heap.size w)
  have H : (if a0_0 = 0 then (some (⟨#[117, 110, 100, 101, 102, 105, 110, 101, 100]⟩ : ByteArray)) else (if a0_0 = 1 then (some (⟨#[110, 117, 108, 108]⟩ : ByteArray)) else (if a0_0 = 2 then ((strconv_FormatBool.f (a0_1 == 1)).bind fun t102 => (some t102)) else (if a0_0 = 3 then ((strconv_FormatInt.f a0_1 10).bind fun t103 => (some t103)) else (if a0_0 = 4 then (some a0_2) else (some (⟨#[91, 111, 98, 106, 101, 99, 116, 93]⟩ : ByteArray))))))) = some r := h
  clear h
  by_cases c2 : a0_0 = 0
  · rw [if_pos c2] at H
    have c2b0 : (a0_0 == 0) = true := beq_iff_eq.mpr c2
    have c2b1 : (a0_0 != 0) = false := bne_eq_false_iff_eq.mpr c2
    clear c2
    obtain rfl := Option.some.inj H
    go_enter Tryd.func15, Tryd.ntmps15
    go_wp2_with (first | ((with_reducible refine gate_dst (N := 1) rfl ?_); refine box_event ?hg (N := 1) ?hd (cs := #[.int .i64 a0_0, .int .i64 a0_1, .string a0_2]) (t := 23) ?hr ?_; (case hd => rfl); (case hg => rfl); (case hr => first | (go_simp; done) | (go_simp; rfl)); intro gb101 hg w3 hbox hb; have n0_ := Aside0.mk (below_step (by repeat (first | (with_reducible first | exact HB.out | apply below_alloc | apply pw_below_drewN | apply below_drew1) | exact HB.out)) hb); have n1_ := Aside0.mk (hbox); have n2_ := Aside0.mk ((by rw [hg]; exact (below_size (by repeat (first | (with_reducible first | exact HB.out | apply below_alloc | apply pw_below_drewN | apply below_drew1) | exact HB.out))) : w.heap.size ≤ gb101)); have n3_ := Aside0.mk ((by rw [hg]; exact (below_size (by repeat (first | (with_reducible first | exact HB.out | apply below_alloc | apply pw_below_drewN | apply below_drew1) | exact HB.out))) : w.heap.size ≤ gb101)); clear HB; have HB := n0_; have BK101 := n1_; have GW101 := n2_; have GE101 := n3_; clear n0_ n1_ n2_ n3_; clear hb hbox hg; have hcz4_0 : w3.cell? ⟨gb101, 0, none⟩ = some (.int .i64 a0_0) := (blk_cell BK101.out 0).trans rfl; have hcz4_1 : w3.cell? ⟨gb101, 1, none⟩ = some (.int .i64 a0_1) := (blk_cell BK101.out 1).trans rfl; have hcz4_2 : w3.cell? ⟨gb101, 2, none⟩ = some (.string a0_2) := (blk_cell BK101.out 2).trans rfl; have hfz4_0 := blk_frozen BK101.out 0; have hfz4_1 := blk_frozen BK101.out 1; have hfz4_2 := blk_frozen BK101.out 2))
    go_ret
    exact ⟨by first | rfl | (simp [errW_none, errW_some] <;> rfl) | (simp [*, errW_none, errW_some] <;> rfl) | (simp [*, errW_none, errW_some]; exact (fun (l_ : List UInt8) => (by cases l_ <;> rfl : l_.isEmpty = !(l_ != []))) _), by repeat (first | (with_reducible first | exact HB.out | apply below_alloc | apply pw_below_drewN | apply below_drew1 | refine below_set ?_ GE101.out) | exact HB.out)⟩
  · rw [if_neg c2] at H
    have c2b0 : (a0_0 == 0) = false := beq_eq_false_iff_ne.mpr c2
    have c2b1 : (a0_0 != 0) = true := bne_iff_ne.mpr c2
    by_cases c5 : a0_0 = 1
    · rw [if_pos c5] at H
      have c5b0 : (a0_0 == 1) = true := beq_iff_eq.mpr c5
      have c5b1 : (a0_0 != 1) = false := bne_eq_false_iff_eq.mpr c5
      clear c5
      obtain rfl := Option.some.inj H
      go_enter Tryd.func15, Tryd.ntmps15
      go_wp2_with (first | ((with_reducible refine gate_dst (N := 1) rfl ?_); refine box_event ?hg (N := 1) ?hd (cs := #[.int .i64 a0_0, .int .i64 a0_1, .string a0_2]) (t := 23) ?hr ?_; (case hd => rfl); (case hg => rfl); (case hr => first | (go_simp; done) | (go_simp; rfl)); intro gb101 hg w6 hbox hb; have n0_ := Aside0.mk (below_step (by repeat (first | (with_reducible first | exact HB.out | apply below_alloc | apply pw_below_drewN | apply below_drew1) | exact HB.out)) hb); have n1_ := Aside0.mk (hbox); have n2_ := Aside0.mk ((by rw [hg]; exact (below_size (by repeat (first | (with_reducible first | exact HB.out | apply below_alloc | apply pw_below_drewN | apply below_drew1) | exact HB.out))) : w.heap.size ≤ gb101)); have n3_ := Aside0.mk ((by rw [hg]; exact (below_size (by repeat (first | (with_reducible first | exact HB.out | apply below_alloc | apply pw_below_drewN | apply below_drew1) | exact HB.out))) : w.heap.size ≤ gb101)); clear HB; have HB := n0_; have BK101 := n1_; have GW101 := n2_; have GE101 := n3_; clear n0_ n1_ n2_ n3_; clear hb hbox hg; have hcz7_0 : w6.cell? ⟨gb101, 0, none⟩ = some (.int .i64 a0_0) := (blk_cell BK101.out 0).trans rfl; have hcz7_1 : w6.cell? ⟨gb101, 1, none⟩ = some (.int .i64 a0_1) := (blk_cell BK101.out 1).trans rfl; have hcz7_2 : w6.cell? ⟨gb101, 2, none⟩ = some (.string a0_2) := (blk_cell BK101.out 2).trans rfl; have hfz7_0 := blk_frozen BK101.out 0; have hfz7_1 := blk_frozen BK101.out 1; have hfz7_2 := blk_frozen BK101.out 2))
      go_ret
      exact ⟨by first | rfl | (simp [errW_none, errW_some] <;> rfl) | (simp [*, errW_none, errW_some] <;> rfl) | (simp [*, errW_none, errW_some]; exact (fun (l_ : List UInt8) => (by cases l_ <;> rfl : l_.isEmpty = !(l_ != []))) _), by repeat (first | (with_reducible first | exact HB.out | apply below_alloc | apply pw_below_drewN | apply below_drew1 | refine below_set ?_ GE101.out) | exact HB.out)⟩
    · rw [if_neg c5] at H
      have c5b0 : (a0_0 == 1) = false := beq_eq_false_iff_ne.mpr c5
      have c5b1 : (a0_0 != 1) = true := bne_iff_ne.mpr c5
      by_cases c8 : a0_0 = 2
      · rw [if_pos c8] at H
        have c8b0 : (a0_0 == 2) = true := beq_iff_eq.mpr c8
        have c8b1 : (a0_0 != 2) = false := bne_eq_false_iff_eq.mpr c8
        clear c8
        replace H := Option.bind_eq_some_iff.mp H
        obtain ⟨t102, A90, H⟩ := H
        replace H : (some t102) = some r := H
        have A9 := Aside0.mk A90
        clear A90
        obtain rfl := Option.some.inj H
        go_enter Tryd.func15, Tryd.ntmps15
        go_wp2_with (first | ((with_reducible refine gate_dst (N := 1) rfl ?_); refine box_event ?hg (N := 1) ?hd (cs := #[.int .i64 a0_0, .int .i64 a0_1, .string a0_2]) (t := 23) ?hr ?_; (case hd => rfl); (case hg => rfl); (case hr => first | (go_simp; done) | (go_simp; rfl)); intro gb101 hg w10 hbox hb; have n0_ := Aside0.mk (below_step (by repeat (first | (with_reducible first | exact HB.out | apply below_alloc | apply pw_below_drewN | apply below_drew1) | exact HB.out)) hb); have n1_ := Aside0.mk (hbox); have n2_ := Aside0.mk ((by rw [hg]; exact (below_size (by repeat (first | (with_reducible first | exact HB.out | apply below_alloc | apply pw_below_drewN | apply below_drew1) | exact HB.out))) : w.heap.size ≤ gb101)); have n3_ := Aside0.mk ((by rw [hg]; exact (below_size (by repeat (first | (with_reducible first | exact HB.out | apply below_alloc | apply pw_below_drewN | apply below_drew1) | exact HB.out))) : w.heap.size ≤ gb101)); clear HB; have HB := n0_; have BK101 := n1_; have GW101 := n2_; have GE101 := n3_; clear n0_ n1_ n2_ n3_; clear hb hbox hg; have hcz11_0 : w10.cell? ⟨gb101, 0, none⟩ = some (.int .i64 a0_0) := (blk_cell BK101.out 0).trans rfl; have hcz11_1 : w10.cell? ⟨gb101, 1, none⟩ = some (.int .i64 a0_1) := (blk_cell BK101.out 1).trans rfl; have hcz11_2 : w10.cell? ⟨gb101, 2, none⟩ = some (.string a0_2) := (blk_cell BK101.out 2).trans rfl; have hfz11_0 := blk_frozen BK101.out 0; have hfz11_1 := blk_frozen BK101.out 1; have hfz11_2 := blk_frozen BK101.out 2) | ((with_reducible refine gate_callee (f := 31) rfl ?_); refine goesL_ (some 14) rfl rfl Tryd.func31 (by kernel_rfl) rfl #[.bool (a0_1 == 1)] rfl (by (try simp only [List.map_toArray, List.map_cons, List.map_nil]); first | done | rfl | (simp only [List.length_drop, List.length_take]; rfl)) ?_; (with_reducible refine (strconv_FormatBool.calls (a0_1 == 1) t102 _ A9.out).mono ?_); rintro e w' ⟨rfl, ⟨nd, rfl⟩⟩; refine ⟨_, rfl, ?_⟩))
        go_ret
        exact ⟨by first | rfl | (simp [errW_none, errW_some] <;> rfl) | (simp [*, errW_none, errW_some] <;> rfl) | (simp [*, errW_none, errW_some]; exact (fun (l_ : List UInt8) => (by cases l_ <;> rfl : l_.isEmpty = !(l_ != []))) _), by repeat (first | (with_reducible first | exact HB.out | apply below_alloc | apply pw_below_drewN | apply below_drew1 | refine below_set ?_ GE101.out) | exact HB.out)⟩
      · rw [if_neg c8] at H
        have c8b0 : (a0_0 == 2) = false := beq_eq_false_iff_ne.mpr c8
        have c8b1 : (a0_0 != 2) = true := bne_iff_ne.mpr c8
        by_cases c12 : a0_0 = 3
        · rw [if_pos c12] at H
          have c12b0 : (a0_0 == 3) = true := beq_iff_eq.mpr c12
          have c12b1 : (a0_0 != 3) = false := bne_eq_false_iff_eq.mpr c12
          clear c12
          replace H := Option.bind_eq_some_iff.mp H
          obtain ⟨t103, A130, H⟩ := H
          replace H : (some t103) = some r := H
          have A13 := Aside0.mk A130
          clear A130
          obtain rfl := Option.some.inj H
          go_enter Tryd.func15, Tryd.ntmps15
          go_wp2_with (first | ((with_reducible refine gate_dst (N := 1) rfl ?_); refine box_event ?hg (N := 1) ?hd (cs := #[.int .i64 a0_0, .int .i64 a0_1, .string a0_2]) (t := 23) ?hr ?_; (case hd => rfl); (case hg => rfl); (case hr => first | (go_simp; done) | (go_simp; rfl)); intro gb101 hg w14 hbox hb; have n0_ := Aside0.mk (below_step (by repeat (first | (with_reducible first | exact HB.out | apply below_alloc | apply pw_below_drewN | apply below_drew1) | exact HB.out)) hb); have n1_ := Aside0.mk (hbox); have n2_ := Aside0.mk ((by rw [hg]; exact (below_size (by repeat (first | (with_reducible first | exact HB.out | apply below_alloc | apply pw_below_drewN | apply below_drew1) | exact HB.out))) : w.heap.size ≤ gb101)); have n3_ := Aside0.mk ((by rw [hg]; exact (below_size (by repeat (first | (with_reducible first | exact HB.out | apply below_alloc | apply pw_below_drewN | apply below_drew1) | exact HB.out))) : w.heap.size ≤ gb101)); clear HB; have HB := n0_; have BK101 := n1_; have GW101 := n2_; have GE101 := n3_; clear n0_ n1_ n2_ n3_; clear hb hbox hg; have hcz15_0 : w14.cell? ⟨gb101, 0, none⟩ = some (.int .i64 a0_0) := (blk_cell BK101.out 0).trans rfl; have hcz15_1 : w14.cell? ⟨gb101, 1, none⟩ = some (.int .i64 a0_1) := (blk_cell BK101.out 1).trans rfl; have hcz15_2 : w14.cell? ⟨gb101, 2, none⟩ = some (.string a0_2) := (blk_cell BK101.out 2).trans rfl; have hfz15_0 := blk_frozen BK101.out 0; have hfz15_1 := blk_frozen BK101.out 1; have hfz15_2 := blk_frozen BK101.out 2) | ((with_reducible refine gate_callee (f := 32) rfl ?_); refine goesL_ (some 19) rfl rfl Tryd.func32 (by kernel_rfl) rfl #[.int .i64 a0_1, .int .i64 10] rfl (by (try simp only [List.map_toArray, List.map_cons, List.map_nil]); first | done | rfl | (simp only [List.length_drop, List.length_take]; rfl)) ?_; (with_reducible refine (strconv_FormatInt.calls (hL := ?sideL) a0_1 10 t103 _ A13.out).mono ?_); (case sideL => exact Laid.below HL.out (by repeat (first | (with_reducible first | exact HB.out | apply below_alloc | apply pw_below_drewN | apply below_drew1 | refine below_set ?_ GE101.out) | exact HB.out))); rintro e w16 ⟨rfl, hb⟩; refine ⟨_, rfl, ?_⟩; have n0_ := Aside0.mk (blk_below (g := gb101) (o := .cells #[.int .i64 a0_0, .int .i64 a0_1, .string a0_2] 23 (0, 0)) (by (with_reducible repeat (first | refine blk_drewN ?_ _ | refine blk_drew ?_ | refine blk_alloc ?_ _)); exact BK101.out) hb); have n1_ := Aside0.mk (below_step (by repeat (first | (with_reducible first | exact HB.out | apply below_alloc | apply pw_below_drewN | apply below_drew1 | refine below_set ?_ GE101.out) | exact HB.out)) hb); clear BK101; clear HB; have BK101 := n0_; have HB := n1_; clear n0_ n1_; (try clear hb); (try clear hb2); (try clear hk); (try clear hi)))
          go_ret
          exact ⟨by first | rfl | (simp [errW_none, errW_some] <;> rfl) | (simp [*, errW_none, errW_some] <;> rfl) | (simp [*, errW_none, errW_some]; exact (fun (l_ : List UInt8) => (by cases l_ <;> rfl : l_.isEmpty = !(l_ != []))) _), by repeat (first | (with_reducible first | exact HB.out | apply below_alloc | apply pw_below_drewN | apply below_drew1 | refine below_set ?_ GE101.out) | exact HB.out)⟩
        · rw [if_neg c12] at H
          have c12b0 : (a0_0 == 3) = false := beq_eq_false_iff_ne.mpr c12
          have c12b1 : (a0_0 != 3) = true := bne_iff_ne.mpr c12
          by_cases c17 : a0_0 = 4
          · rw [if_pos c17] at H
            have c17b0 : (a0_0 == 4) = true := beq_iff_eq.mpr c17
            have c17b1 : (a0_0 != 4) = false := bne_eq_false_iff_eq.mpr c17
            clear c17
            obtain rfl := Option.some.inj H
            go_enter Tryd.func15, Tryd.ntmps15
            go_wp2_with (first | ((with_reducible refine gate_dst (N := 1) rfl ?_); refine box_event ?hg (N := 1) ?hd (cs := #[.int .i64 a0_0, .int .i64 a0_1, .string a0_2]) (t := 23) ?hr ?_; (case hd => rfl); (case hg => rfl); (case hr => first | (go_simp; done) | (go_simp; rfl)); intro gb101 hg w18 hbox hb; have n0_ := Aside0.mk (below_step (by repeat (first | (with_reducible first | exact HB.out | apply below_alloc | apply pw_below_drewN | apply below_drew1) | exact HB.out)) hb); have n1_ := Aside0.mk (hbox); have n2_ := Aside0.mk ((by rw [hg]; exact (below_size (by repeat (first | (with_reducible first | exact HB.out | apply below_alloc | apply pw_below_drewN | apply below_drew1) | exact HB.out))) : w.heap.size ≤ gb101)); have n3_ := Aside0.mk ((by rw [hg]; exact (below_size (by repeat (first | (with_reducible first | exact HB.out | apply below_alloc | apply pw_below_drewN | apply below_drew1) | exact HB.out))) : w.heap.size ≤ gb101)); clear HB; have HB := n0_; have BK101 := n1_; have GW101 := n2_; have GE101 := n3_; clear n0_ n1_ n2_ n3_; clear hb hbox hg; have hcz19_0 : w18.cell? ⟨gb101, 0, none⟩ = some (.int .i64 a0_0) := (blk_cell BK101.out 0).trans rfl; have hcz19_1 : w18.cell? ⟨gb101, 1, none⟩ = some (.int .i64 a0_1) := (blk_cell BK101.out 1).trans rfl; have hcz19_2 : w18.cell? ⟨gb101, 2, none⟩ = some (.string a0_2) := (blk_cell BK101.out 2).trans rfl; have hfz19_0 := blk_frozen BK101.out 0; have hfz19_1 := blk_frozen BK101.out 1; have hfz19_2 := blk_frozen BK101.out 2))
            go_ret
            exact ⟨by first | rfl | (simp [errW_none, errW_some] <;> rfl) | (simp [*, errW_none, errW_some] <;> rfl) | (simp [*, errW_none, errW_some]; exact (fun (l_ : List UInt8) => (by cases l_ <;> rfl : l_.isEmpty = !(l_ != []))) _), by repeat (first | (with_reducible first | exact HB.out | apply below_alloc | apply pw_below_drewN | apply below_drew1 | refine below_set ?_ GE101.out) | exact HB.out)⟩
          · rw [if_neg c17] at H
            have c17b0 : (a0_0 == 4) = false := beq_eq_false_iff_ne.mpr c17
            have c17b1 : (a0_0 != 4) = true := bne_iff_ne.mpr c17
            obtain rfl := Option.some.inj H
            go_enter Tryd.func15, Tryd.ntmps15
            go_wp2_with (first | ((with_reducible refine gate_dst (N := 1) rfl ?_); refine box_event ?hg (N := 1) ?hd (cs := #[.int .i64 a0_0, .int .i64 a0_1, .string a0_2]) (t := 23) ?hr ?_; (case hd => rfl); (case hg => rfl); (case hr => first | (go_simp; done) | (go_simp; rfl)); intro gb101 hg w20 hbox hb; have n0_ := Aside0.mk (below_step (by repeat (first | (with_reducible first | exact HB.out | apply below_alloc | apply pw_below_drewN | apply below_drew1) | exact HB.out)) hb); have n1_ := Aside0.mk (hbox); have n2_ := Aside0.mk ((by rw [hg]; exact (below_size (by repeat (first | (with_reducible first | exact HB.out | apply below_alloc | apply pw_below_drewN | apply below_drew1) | exact HB.out))) : w.heap.size ≤ gb101)); have n3_ := Aside0.mk ((by rw [hg]; exact (below_size (by repeat (first | (with_reducible first | exact HB.out | apply below_alloc | apply pw_below_drewN | apply below_drew1) | exact HB.out))) : w.heap.size ≤ gb101)); clear HB; have HB := n0_; have BK101 := n1_; have GW101 := n2_; have GE101 := n3_; clear n0_ n1_ n2_ n3_; clear hb hbox hg; have hcz21_0 : w20.cell? ⟨gb101, 0, none⟩ = some (.int .i64 a0_0) := (blk_cell BK101.out 0).trans rfl; have hcz21_1 : w20.cell? ⟨gb101, 1, none⟩ = some (.int .i64 a0_1) := (blk_cell BK101.out 1).trans rfl; have hcz21_2 : w20.cell? ⟨gb101, 2, none⟩ = some (.string a0_2) := (blk_cell BK101.out 2).trans rfl; have hfz21_0 := blk_frozen BK101.out 0; have hfz21_1 := blk_frozen BK101.out 1; have hfz21_2 := blk_frozen BK101.out 2))
            go_ret
            exact ⟨by first | rfl | (simp [errW_none, errW_some] <;> rfl) | (simp [*, errW_none, errW_some] <;> rfl) | (simp [*, errW_none, errW_some]; exact (fun (l_ : List UInt8) => (by cases l_ <;> rfl : l_.isEmpty = !(l_ != []))) _), by repeat (first | (with_reducible first | exact HB.out | apply below_alloc | apply pw_below_drewN | apply below_drew1 | refine below_set ?_ GE101.out) | exact HB.out)⟩
/-! ### value_number: function 37 -/
def value_number.f (a0 : Int) : Option (Int × Int × ByteArray) := some (3, a0, (⟨#[]⟩ : ByteArray))
set_option maxHeartbeats 8000000 in
set_option maxRecDepth 100000 in
theorem value_number.calls (a0 : Int) (r1 : Int) (r2 : Int) (r3 : ByteArray) (w : World) (h : value_number.f a0 = some (r1, r2, r3)) :
    Calls Tryd.prog 37 #[.int .i64 a0] w fun e w' => e = .returned (.agg #[.int .i64 r1, .int .i64 r2, .string r3]) ∧ Below w.heap.size w w' := by
  have hu23 := Tryd.underlying23
  have HB := Aside0.mk (Below.refl w.heap.size w)
  have H : (some (3, a0, (⟨#[]⟩ : ByteArray))) = some (r1, r2, r3) := h
  clear h
  simp only [Option.some.injEq, Prod.mk.injEq] at H
  obtain ⟨rfl, rfl, rfl⟩ := H
  go_enter Tryd.func37, Tryd.ntmps37
  go_wp2_with (first | ((with_reducible refine gate_dst (N := 2) rfl ?_); refine box_event ?hg (N := 2) ?hd (cs := #[.int .i64 0, .int .i64 0, .string (⟨#[]⟩ : ByteArray)]) (t := 23) ?hr ?_; (case hd => rfl); (case hg => rfl); (case hr => first | (go_simp; done) | (go_simp; rfl)); intro gb104 hg w2 hbox hb; have n0_ := Aside0.mk (below_step (by repeat (first | (with_reducible first | exact HB.out | apply below_alloc | apply pw_below_drewN | apply below_drew1) | exact HB.out)) hb); have n1_ := Aside0.mk (hbox); have n2_ := Aside0.mk ((by rw [hg]; exact (below_size (by repeat (first | (with_reducible first | exact HB.out | apply below_alloc | apply pw_below_drewN | apply below_drew1) | exact HB.out))) : w.heap.size ≤ gb104)); have n3_ := Aside0.mk ((by rw [hg]; exact (below_size (by repeat (first | (with_reducible first | exact HB.out | apply below_alloc | apply pw_below_drewN | apply below_drew1) | exact HB.out))) : w.heap.size ≤ gb104)); clear HB; have HB := n0_; have BK104 := n1_; have GW104 := n2_; have GE104 := n3_; clear n0_ n1_ n2_ n3_; clear hb hbox hg; have hcz3_0 : w2.cell? ⟨gb104, 0, none⟩ = some (.int .i64 0) := (blk_cell BK104.out 0).trans rfl; have hcz3_1 : w2.cell? ⟨gb104, 1, none⟩ = some (.int .i64 0) := (blk_cell BK104.out 1).trans rfl; have hcz3_2 : w2.cell? ⟨gb104, 2, none⟩ = some (.string (⟨#[]⟩ : ByteArray)) := (blk_cell BK104.out 2).trans rfl; have hfz3_0 := blk_frozen BK104.out 0; have hfz3_1 := blk_frozen BK104.out 1; have hfz3_2 := blk_frozen BK104.out 2))
  refine bodyPost_ret (results_cell_row rfl _ _ gb104 23 #[.int .i64 3, .int .i64 a0, .string (⟨#[]⟩ : ByteArray)] (0, 0) _ rfl (by (with_reducible repeat (first | refine blk_drewN ?_ _ | refine blk_drew ?_ | refine blk_alloc ?_ _)); refine blk_put (cs := #[.int .i64 3, .int .i64 a0, .string (⟨#[]⟩ : ByteArray)]) ?_ 2 _ rfl; (with_reducible repeat (first | refine blk_drewN ?_ _ | refine blk_drew ?_ | refine blk_alloc ?_ _)); refine blk_put (cs := #[.int .i64 3, .int .i64 0, .string (⟨#[]⟩ : ByteArray)]) ?_ 1 _ rfl; (with_reducible repeat (first | refine blk_drewN ?_ _ | refine blk_drew ?_ | refine blk_alloc ?_ _)); refine blk_put (cs := #[.int .i64 0, .int .i64 0, .string (⟨#[]⟩ : ByteArray)]) ?_ 0 _ rfl; (with_reducible repeat (first | refine blk_drewN ?_ _ | refine blk_drew ?_ | refine blk_alloc ?_ _)); exact BK104.out) Tryd.underlying23 rfl (by kernel_rfl)) rfl ?_
  exact ⟨by first | rfl | (simp [errW_none, errW_some] <;> rfl) | (simp [*, errW_none, errW_some] <;> rfl) | (simp [*, errW_none, errW_some]; exact (fun (l_ : List UInt8) => (by cases l_ <;> rfl : l_.isEmpty = !(l_ != []))) _), by repeat (first | (with_reducible first | exact HB.out | apply below_alloc | apply pw_below_drewN | apply below_drew1 | refine below_set ?_ GE104.out) | exact HB.out)⟩
end Go.Proofs.YtmdchbenalhpjaaDoor.Pr

-- WRITTEN BY hprint.py (a patched scratch copy of print.py, see NOTES.md): out of the translation and of contracts proved by hand.
namespace Go.Proofs.YtmdchbenalhpjaaDoor.Pr
open Go.RowKit Go.Proofs.YtmdchbenalhpjaaDoorW.PrintWords Go.Proofs.YtmdchbenalhpjaaDoorW.PrintLast Go.Proofs.YtmdchbenalhpjaaDoorW.PrintMore
set_option linter.unusedVariables false
set_option linter.unusedSimpArgs false
theorem eqA23 (d : Nat) (w : World) (x0 y0 : Int) (x1 y1 : Int) (x2 y2 : ByteArray) :
    (Op.equalIn (d + 2) 23 (.agg #[.int .i64 x0, .int .i64 x1, .string x2]) (.agg #[.int .i64 y0, .int .i64 y1, .string y2])).run Tryd.prog w = .ok (x0 == y0 && (x1 == y1 && (x2.toList == y2.toList))) w := by
  refine eqA_of Tryd.underlying23 (by kernel_rfl) ?_
  refine eqf_cons (by rfl) (by go_simp; rfl) (by go_simp; rfl) (by go_simp) ?_
  refine eqf_cons (by rfl) (by go_simp; rfl) (by go_simp; rfl) (by go_simp) ?_
  exact eqf_last (by rfl) (by go_simp; rfl) (by go_simp; rfl) (by go_simp)
end Go.Proofs.YtmdchbenalhpjaaDoor.Pr

-- WRITTEN BY hprint.py (a patched scratch copy of print.py, see NOTES.md): out of the translation and of contracts proved by hand.
namespace Go.Proofs.YtmdchbenalhpjaaDoor.Pr
open Go.RowKit Go.Proofs.YtmdchbenalhpjaaDoorW.PrintWords Go.Proofs.YtmdchbenalhpjaaDoorW.PrintLast Go.Proofs.YtmdchbenalhpjaaDoorW.PrintMore
set_option linter.unusedVariables false
set_option linter.unusedSimpArgs false
attribute [local go_sem high] eqA23
/-! ### value_Right: function 19 -/
mutual
def value_Right.j4 : Nat → Int → Int → ByteArray → Int → Int → ByteArray → Option (Bool)
  | 0, _, _, _, _, _, _ => none
  | k + 1, x168000, x168001, x168002, x169000, x169001, x169002 => some (x168000 == x169000 && (x168001 == x169001 && (x168002.toList == x169002.toList)))
def value_Right.j3 : Nat → Int → Int → ByteArray → Int → Int → ByteArray → Option (Bool)
  | 0, _, _, _, _, _, _ => none
  | k + 1, x168000, x168001, x168002, x169000, x169001, x169002 => value_Right.j4 k x168000 x168001 x168002 x169000 x168001 x169002
def value_Right.j2 : Nat → Bool → Int → Int → ByteArray → Int → Int → ByteArray → Option (Bool)
  | 0, _, _, _, _, _, _, _ => none
  | k + 1, x29, x168000, x168001, x168002, x169000, x169001, x169002 => if x29 = true then (some false) else (value_Right.j3 k x168000 x168001 x168002 x169000 x169001 x169002)
def value_Right.j0 : Nat → Int → Bool → Int → Int → ByteArray → Int → Int → ByteArray → Option (Bool)
  | 0, _, _, _, _, _, _, _, _ => none
  | k + 1, x8, x13, x168000, x168001, x168002, x169000, x169001, x169002 => if x13 = true then (value_Right.j3 k x168000 x168001 x168002 x169000 x169001 x169002) else (if x8 = 0 then (value_Right.j1 k (x8 == 0) x168000 x168001 x168002 x169000 x169001 x169002) else (value_Right.j1 k (x8 == 1) x168000 x168001 x168002 x169000 x169001 x169002))
def value_Right.j1 : Nat → Bool → Int → Int → ByteArray → Int → Int → ByteArray → Option (Bool)
  | 0, _, _, _, _, _, _, _ => none
  | k + 1, x16, x168000, x168001, x168002, x169000, x169001, x169002 => if x16 = true then (value_Right.j4 k x168000 x168001 x168002 x169000 x169001 x169002) else (some false)
end
def value_Right.f (k : Nat) (a0_0 : Int) (a0_1 : Int) (a0_2 : ByteArray) : Option (Bool) := if a0_0 = 4 then (value_Right.j4 k a0_0 a0_1 a0_2 a0_0 0 a0_2) else (if a0_0 = 2 then (if a0_1 < 0 then (value_Right.j2 k true a0_0 a0_1 a0_2 a0_0 0 (⟨#[]⟩ : ByteArray)) else (value_Right.j2 k (decide (a0_1 > 1)) a0_0 a0_1 a0_2 a0_0 0 (⟨#[]⟩ : ByteArray))) else (if a0_0 = 3 then (value_Right.j0 k a0_0 (a0_0 == 3) a0_0 a0_1 a0_2 a0_0 0 (⟨#[]⟩ : ByteArray)) else (value_Right.j0 k a0_0 (a0_0 == 5) a0_0 a0_1 a0_2 a0_0 0 (⟨#[]⟩ : ByteArray))))
set_option maxHeartbeats 8000000 in
set_option maxRecDepth 100000 in
theorem value_Right.calls (k : Nat) (a0_0 : Int) (a0_1 : Int) (a0_2 : ByteArray) (r : Bool) (w : World) (h : value_Right.f k a0_0 a0_1 a0_2 = some r) :
    Calls Tryd.prog 19 #[.agg #[.int .i64 a0_0, .int .i64 a0_1, .string a0_2]] w fun e w' => e = .returned (.bool r) ∧ Below w.heap.size w w' := by
  have hu23 := Tryd.underlying23
  have HB := Aside0.mk (Below.refl w.heap.size w)
  have H : (if a0_0 = 4 then (value_Right.j4 k a0_0 a0_1 a0_2 a0_0 0 a0_2) else (if a0_0 = 2 then (if a0_1 < 0 then (value_Right.j2 k true a0_0 a0_1 a0_2 a0_0 0 (⟨#[]⟩ : ByteArray)) else (value_Right.j2 k (decide (a0_1 > 1)) a0_0 a0_1 a0_2 a0_0 0 (⟨#[]⟩ : ByteArray))) else (if a0_0 = 3 then (value_Right.j0 k a0_0 (a0_0 == 3) a0_0 a0_1 a0_2 a0_0 0 (⟨#[]⟩ : ByteArray)) else (value_Right.j0 k a0_0 (a0_0 == 5) a0_0 a0_1 a0_2 a0_0 0 (⟨#[]⟩ : ByteArray))))) = some r := h
  clear h
  have HC2 := Aside0.mk H
  clear H
  go_enter Tryd.func19, Tryd.ntmps19
  go_upto_block 0 with (first | ((with_reducible refine gate_dst (N := 1) rfl ?_); refine box_event ?hg (N := 1) ?hd (cs := #[.int .i64 a0_0, .int .i64 a0_1, .string a0_2]) (t := 23) ?hr ?_; (case hd => rfl); (case hg => rfl); (case hr => first | (go_simp; done) | (go_simp; rfl)); intro gb167 hg w3 hbox hb; have n0_ := Aside0.mk (below_step (by repeat (first | (with_reducible first | exact HB.out | apply below_alloc | apply pw_below_drewN | apply below_drew1) | exact HB.out)) hb); have n1_ := Aside0.mk (hbox); have n2_ := Aside0.mk ((by rw [hg]; exact (below_size (by repeat (first | (with_reducible first | exact HB.out | apply below_alloc | apply pw_below_drewN | apply below_drew1) | exact HB.out))) : w.heap.size ≤ gb167)); have n3_ := Aside0.mk ((by rw [hg]; exact (below_size (by repeat (first | (with_reducible first | exact HB.out | apply below_alloc | apply pw_below_drewN | apply below_drew1) | exact HB.out))) : w.heap.size ≤ gb167)); clear HB; have HB := n0_; have BK167 := n1_; have GW167 := n2_; have GE167 := n3_; clear n0_ n1_ n2_ n3_; clear hb hbox hg; have hcz4_0 : w3.cell? ⟨gb167, 0, none⟩ = some (.int .i64 a0_0) := (blk_cell BK167.out 0).trans rfl; have hcz4_1 : w3.cell? ⟨gb167, 1, none⟩ = some (.int .i64 a0_1) := (blk_cell BK167.out 1).trans rfl; have hcz4_2 : w3.cell? ⟨gb167, 2, none⟩ = some (.string a0_2) := (blk_cell BK167.out 2).trans rfl; have hfz4_0 := blk_frozen BK167.out 0; have hfz4_1 := blk_frozen BK167.out 1; have hfz4_2 := blk_frozen BK167.out 2) | ((with_reducible refine gate_dst (N := 3) rfl ?_); refine box_event ?hg (N := 3) ?hd (cs := #[.int .i64 0, .int .i64 0, .string (⟨#[]⟩ : ByteArray)]) (t := 23) ?hr ?_; (case hd => rfl); (case hg => rfl); (case hr => first | (go_simp; done) | (go_simp; rfl)); intro gb168 hg w5 hbox hb; have n0_ := Aside0.mk (blk_below (g := gb167) (o := .cells #[.int .i64 a0_0, .int .i64 a0_1, .string a0_2] 23 (0, 0)) (by (with_reducible repeat (first | refine blk_drewN ?_ _ | refine blk_drew ?_ | refine blk_alloc ?_ _)); exact BK167.out) hb); have n1_ := Aside0.mk (below_step (by repeat (first | (with_reducible first | exact HB.out | apply below_alloc | apply pw_below_drewN | apply below_drew1 | refine below_set ?_ GE167.out) | exact HB.out)) hb); have n2_ := Aside0.mk (hbox); have n3_ := Aside0.mk ((by rw [hg]; exact (below_size (by repeat (first | (with_reducible first | exact HB.out | apply below_alloc | apply pw_below_drewN | apply below_drew1 | refine below_set ?_ GE167.out) | exact HB.out))) : w.heap.size ≤ gb168)); have n4_ := Aside0.mk ((by rw [hg]; exact (below_size (by repeat (first | (with_reducible first | exact HB.out | apply below_alloc | apply pw_below_drewN | apply below_drew1 | refine below_set ?_ GE167.out) | exact HB.out))) : w.heap.size ≤ gb168)); have n5_ := Aside0.mk ((by rw [hg]; exact Nat.ne_of_lt (blk_lt (g := gb167) (o := .cells #[.int .i64 a0_0, .int .i64 a0_1, .string a0_2] 23 (0, 0)) (by (with_reducible repeat (first | refine blk_drewN ?_ _ | refine blk_drew ?_ | refine blk_alloc ?_ _)); exact BK167.out)) : gb167 ≠ gb168)); have n6_ := Aside0.mk ((by rw [hg]; exact Nat.ne_of_gt (blk_lt (g := gb167) (o := .cells #[.int .i64 a0_0, .int .i64 a0_1, .string a0_2] 23 (0, 0)) (by (with_reducible repeat (first | refine blk_drewN ?_ _ | refine blk_drew ?_ | refine blk_alloc ?_ _)); exact BK167.out)) : gb168 ≠ gb167)); clear BK167; clear HB; have BK167 := n0_; have HB := n1_; have BK168 := n2_; have GW168 := n3_; have GE168 := n4_; have NB167_168 := n5_; have NB168_167 := n6_; clear n0_ n1_ n2_ n3_ n4_ n5_ n6_; clear hb hbox hg; have hnb6 := NB168_167.out; have hnc6 := NB167_168.out; have hcz7_0 : w5.cell? ⟨gb168, 0, none⟩ = some (.int .i64 0) := (blk_cell BK168.out 0).trans rfl; have hcz7_1 : w5.cell? ⟨gb168, 1, none⟩ = some (.int .i64 0) := (blk_cell BK168.out 1).trans rfl; have hcz7_2 : w5.cell? ⟨gb168, 2, none⟩ = some (.string (⟨#[]⟩ : ByteArray)) := (blk_cell BK168.out 2).trans rfl; have hfz7_0 := blk_frozen BK168.out 0; have hfz7_1 := blk_frozen BK168.out 1; have hfz7_2 := blk_frozen BK168.out 2; have hcz8_0 : w5.cell? ⟨gb167, 0, none⟩ = some (.int .i64 a0_0) := (blk_cell BK167.out 0).trans rfl; have hcz8_1 : w5.cell? ⟨gb167, 1, none⟩ = some (.int .i64 a0_1) := (blk_cell BK167.out 1).trans rfl; have hcz8_2 : w5.cell? ⟨gb167, 2, none⟩ = some (.string a0_2) := (blk_cell BK167.out 2).trans rfl; have hfz8_0 := blk_frozen BK167.out 0; have hfz8_1 := blk_frozen BK167.out 1; have hfz8_2 := blk_frozen BK167.out 2))
  (try simp only [Act.put, List.setIfInBounds_toArray, List.set_cons_zero, List.set_cons_succ])
  go_cut [] (fun wc => ∃ (kq : Nat) (x169001_1 : Int) (x169002_1 : ByteArray), Aside0 (value_Right.j4 kq a0_0 a0_1 a0_2 a0_0 x169001_1 x169002_1 = some r) ∧ Aside0 (kq ≤ k) ∧ Aside0 (wc.heap[gb167]? = some (.cells #[.int .i64 a0_0, .int .i64 a0_1, .string a0_2] 23 (0, 0))) ∧ Aside0 (wc.heap[gb168]? = some (.cells #[.int .i64 a0_0, .int .i64 x169001_1, .string x169002_1] 23 (0, 0))) ∧ Aside0 (Below w.heap.size w wc))
  case first =>
    have H := HC2.out
    clear HC2
    have HC9 := Aside0.mk H
    clear H
    go_upto_block 3 with (fail)
    go_cut [] (fun wc => ∃ (kq : Nat) (x169002_8 : ByteArray), Aside0 (value_Right.j3 kq a0_0 a0_1 a0_2 a0_0 0 x169002_8 = some r) ∧ Aside0 (kq ≤ k) ∧ Aside0 (wc.heap[gb167]? = some (.cells #[.int .i64 a0_0, .int .i64 a0_1, .string a0_2] 23 (0, 0))) ∧ Aside0 (wc.heap[gb168]? = some (.cells #[.int .i64 a0_0, .int .i64 0, .string x169002_8] 23 (0, 0))) ∧ Aside0 (Below w.heap.size w wc))
    case first =>
      have H := HC9.out
      clear HC9
      by_cases c10 : a0_0 = 4
      · rw [if_pos c10] at H
        have c10b0 : (a0_0 == 4) = true := beq_iff_eq.mpr c10
        have c10b1 : (a0_0 != 4) = false := bne_eq_false_iff_eq.mpr c10
        clear c10
        (first | rw [c10b0] | (simp only [i64_w, i32_w]; rw [c10b0]) | skip)
        have H' := Aside0.mk H
        clear H
        have hnb11 := NB167_168.out
        have hnc11 := NB168_167.out
        have hcz12_0 : w5.cell? ⟨gb167, 0, none⟩ = some (.int .i64 a0_0) := (blk_cell BK167.out 0).trans rfl
        have hcz12_1 : w5.cell? ⟨gb167, 1, none⟩ = some (.int .i64 a0_1) := (blk_cell BK167.out 1).trans rfl
        have hcz12_2 : w5.cell? ⟨gb167, 2, none⟩ = some (.string a0_2) := (blk_cell BK167.out 2).trans rfl
        have hfz12_0 := blk_frozen BK167.out 0
        have hfz12_1 := blk_frozen BK167.out 1
        have hfz12_2 := blk_frozen BK167.out 2
        have hcz13_0 : w5.cell? ⟨gb168, 0, none⟩ = some (.int .i64 0) := (blk_cell BK168.out 0).trans rfl
        have hcz13_1 : w5.cell? ⟨gb168, 1, none⟩ = some (.int .i64 0) := (blk_cell BK168.out 1).trans rfl
        have hcz13_2 : w5.cell? ⟨gb168, 2, none⟩ = some (.string (⟨#[]⟩ : ByteArray)) := (blk_cell BK168.out 2).trans rfl
        have hfz13_0 := blk_frozen BK168.out 0
        have hfz13_1 := blk_frozen BK168.out 1
        have hfz13_2 := blk_frozen BK168.out 2
        go_wp2
        go_meet
        case rel => exact ⟨_, (0), (a0_2), H', ⟨by first | omega | exact Nat.le_refl _⟩, ⟨by (with_reducible repeat (first | refine blk_drewN ?_ _ | refine blk_drew ?_ | refine blk_alloc ?_ _)); refine blk_far ?_ NB167_168.out _; (with_reducible repeat (first | refine blk_drewN ?_ _ | refine blk_drew ?_ | refine blk_alloc ?_ _)); refine blk_far ?_ NB167_168.out _; (with_reducible repeat (first | refine blk_drewN ?_ _ | refine blk_drew ?_ | refine blk_alloc ?_ _)); refine blk_far ?_ NB167_168.out _; (with_reducible repeat (first | refine blk_drewN ?_ _ | refine blk_drew ?_ | refine blk_alloc ?_ _)); refine blk_far ?_ NB167_168.out _; (with_reducible repeat (first | refine blk_drewN ?_ _ | refine blk_drew ?_ | refine blk_alloc ?_ _)); exact BK167.out⟩, ⟨by (with_reducible repeat (first | refine blk_drewN ?_ _ | refine blk_drew ?_ | refine blk_alloc ?_ _)); refine blk_put (cs := #[.int .i64 a0_0, .int .i64 0, .string (⟨#[]⟩ : ByteArray)]) ?_ 2 _ rfl; (with_reducible repeat (first | refine blk_drewN ?_ _ | refine blk_drew ?_ | refine blk_alloc ?_ _)); refine blk_put (cs := #[.int .i64 a0_0, .int .i64 0, .string (⟨#[]⟩ : ByteArray)]) ?_ 2 _ rfl; (with_reducible repeat (first | refine blk_drewN ?_ _ | refine blk_drew ?_ | refine blk_alloc ?_ _)); refine blk_put (cs := #[.int .i64 a0_0, .int .i64 0, .string (⟨#[]⟩ : ByteArray)]) ?_ 1 _ rfl; (with_reducible repeat (first | refine blk_drewN ?_ _ | refine blk_drew ?_ | refine blk_alloc ?_ _)); refine blk_put (cs := #[.int .i64 0, .int .i64 0, .string (⟨#[]⟩ : ByteArray)]) ?_ 0 _ rfl; (with_reducible repeat (first | refine blk_drewN ?_ _ | refine blk_drew ?_ | refine blk_alloc ?_ _)); exact BK168.out⟩, ⟨by repeat (first | (with_reducible first | exact HB.out | apply below_alloc | apply pw_below_drewN | apply below_drew1 | refine below_set ?_ GE167.out | refine below_set ?_ GE168.out) | exact HB.out)⟩⟩
      · rw [if_neg c10] at H
        have c10b0 : (a0_0 == 4) = false := beq_eq_false_iff_ne.mpr c10
        have c10b1 : (a0_0 != 4) = true := bne_iff_ne.mpr c10
        (first | rw [c10b0] | (simp only [i64_w, i32_w]; rw [c10b0]) | skip)
        by_cases c14 : a0_0 = 2
        · rw [if_pos c14] at H
          have c14b0 : (a0_0 == 2) = true := beq_iff_eq.mpr c14
          have c14b1 : (a0_0 != 2) = false := bne_eq_false_iff_eq.mpr c14
          clear c14
          have HC15 := Aside0.mk H
          clear H
          go_upto_region 10 with (fail)
          go_cut [29] (fun v29 wc => ∃ (kq : Nat) (x29_14 : Bool), v29 = .bool x29_14 ∧ Aside0 (value_Right.j2 kq x29_14 a0_0 a0_1 a0_2 a0_0 0 (⟨#[]⟩ : ByteArray) = some r) ∧ Aside0 (kq ≤ k) ∧ Aside0 (wc.heap[gb167]? = some (.cells #[.int .i64 a0_0, .int .i64 a0_1, .string a0_2] 23 (0, 0))) ∧ Aside0 (wc.heap[gb168]? = some (.cells #[.int .i64 a0_0, .int .i64 0, .string (⟨#[]⟩ : ByteArray)] 23 (0, 0))) ∧ Aside0 (Below w.heap.size w wc))
          case first =>
            have H := HC15.out
            clear HC15
            by_cases c16 : a0_1 < 0
            · rw [if_pos c16] at H
              have c16b0 : decide (a0_1 < 0) = true := decide_eq_true c16
              clear c16
              (first | rw [c16b0] | (simp only [i64_w, i32_w]; rw [c16b0]) | skip)
              have H' := Aside0.mk H
              clear H
              have hnb17 := NB167_168.out
              have hnc17 := NB168_167.out
              have hcz18_0 : w5.cell? ⟨gb167, 0, none⟩ = some (.int .i64 a0_0) := (blk_cell BK167.out 0).trans rfl
              have hcz18_1 : w5.cell? ⟨gb167, 1, none⟩ = some (.int .i64 a0_1) := (blk_cell BK167.out 1).trans rfl
              have hcz18_2 : w5.cell? ⟨gb167, 2, none⟩ = some (.string a0_2) := (blk_cell BK167.out 2).trans rfl
              have hfz18_0 := blk_frozen BK167.out 0
              have hfz18_1 := blk_frozen BK167.out 1
              have hfz18_2 := blk_frozen BK167.out 2
              go_wp2
              go_meet
              case rel => exact ⟨_, (true), (by first | rfl | (simp; done) | (simp [*]; done) | (simp [*]; exact (fun (l_ : List UInt8) => (by cases l_ <;> rfl : l_.isEmpty = !(l_ != []))) _)), H', ⟨by first | omega | exact Nat.le_refl _⟩, ⟨by (with_reducible repeat (first | refine blk_drewN ?_ _ | refine blk_drew ?_ | refine blk_alloc ?_ _)); refine blk_far ?_ NB167_168.out _; (with_reducible repeat (first | refine blk_drewN ?_ _ | refine blk_drew ?_ | refine blk_alloc ?_ _)); refine blk_far ?_ NB167_168.out _; (with_reducible repeat (first | refine blk_drewN ?_ _ | refine blk_drew ?_ | refine blk_alloc ?_ _)); refine blk_far ?_ NB167_168.out _; (with_reducible repeat (first | refine blk_drewN ?_ _ | refine blk_drew ?_ | refine blk_alloc ?_ _)); exact BK167.out⟩, ⟨by (with_reducible repeat (first | refine blk_drewN ?_ _ | refine blk_drew ?_ | refine blk_alloc ?_ _)); refine blk_put (cs := #[.int .i64 a0_0, .int .i64 0, .string (⟨#[]⟩ : ByteArray)]) ?_ 2 _ rfl; (with_reducible repeat (first | refine blk_drewN ?_ _ | refine blk_drew ?_ | refine blk_alloc ?_ _)); refine blk_put (cs := #[.int .i64 a0_0, .int .i64 0, .string (⟨#[]⟩ : ByteArray)]) ?_ 1 _ rfl; (with_reducible repeat (first | refine blk_drewN ?_ _ | refine blk_drew ?_ | refine blk_alloc ?_ _)); refine blk_put (cs := #[.int .i64 0, .int .i64 0, .string (⟨#[]⟩ : ByteArray)]) ?_ 0 _ rfl; (with_reducible repeat (first | refine blk_drewN ?_ _ | refine blk_drew ?_ | refine blk_alloc ?_ _)); exact BK168.out⟩, ⟨by repeat (first | (with_reducible first | exact HB.out | apply below_alloc | apply pw_below_drewN | apply below_drew1 | refine below_set ?_ GE167.out | refine below_set ?_ GE168.out) | exact HB.out)⟩⟩
            · rw [if_neg c16] at H
              have c16b0 : decide (a0_1 < 0) = false := decide_eq_false c16
              clear c16
              (first | rw [c16b0] | (simp only [i64_w, i32_w]; rw [c16b0]) | skip)
              have H' := Aside0.mk H
              clear H
              have hnb19 := NB167_168.out
              have hnc19 := NB168_167.out
              have hcz20_0 : w5.cell? ⟨gb167, 0, none⟩ = some (.int .i64 a0_0) := (blk_cell BK167.out 0).trans rfl
              have hcz20_1 : w5.cell? ⟨gb167, 1, none⟩ = some (.int .i64 a0_1) := (blk_cell BK167.out 1).trans rfl
              have hcz20_2 : w5.cell? ⟨gb167, 2, none⟩ = some (.string a0_2) := (blk_cell BK167.out 2).trans rfl
              have hfz20_0 := blk_frozen BK167.out 0
              have hfz20_1 := blk_frozen BK167.out 1
              have hfz20_2 := blk_frozen BK167.out 2
              go_wp2
              go_meet
              case rel => exact ⟨_, (decide (a0_1 > 1)), (by first | rfl | (simp; done) | (simp [*]; done) | (simp [*]; exact (fun (l_ : List UInt8) => (by cases l_ <;> rfl : l_.isEmpty = !(l_ != []))) _)), H', ⟨by first | omega | exact Nat.le_refl _⟩, ⟨by (with_reducible repeat (first | refine blk_drewN ?_ _ | refine blk_drew ?_ | refine blk_alloc ?_ _)); refine blk_far ?_ NB167_168.out _; (with_reducible repeat (first | refine blk_drewN ?_ _ | refine blk_drew ?_ | refine blk_alloc ?_ _)); refine blk_far ?_ NB167_168.out _; (with_reducible repeat (first | refine blk_drewN ?_ _ | refine blk_drew ?_ | refine blk_alloc ?_ _)); refine blk_far ?_ NB167_168.out _; (with_reducible repeat (first | refine blk_drewN ?_ _ | refine blk_drew ?_ | refine blk_alloc ?_ _)); exact BK167.out⟩, ⟨by (with_reducible repeat (first | refine blk_drewN ?_ _ | refine blk_drew ?_ | refine blk_alloc ?_ _)); refine blk_put (cs := #[.int .i64 a0_0, .int .i64 0, .string (⟨#[]⟩ : ByteArray)]) ?_ 2 _ rfl; (with_reducible repeat (first | refine blk_drewN ?_ _ | refine blk_drew ?_ | refine blk_alloc ?_ _)); refine blk_put (cs := #[.int .i64 a0_0, .int .i64 0, .string (⟨#[]⟩ : ByteArray)]) ?_ 1 _ rfl; (with_reducible repeat (first | refine blk_drewN ?_ _ | refine blk_drew ?_ | refine blk_alloc ?_ _)); refine blk_put (cs := #[.int .i64 0, .int .i64 0, .string (⟨#[]⟩ : ByteArray)]) ?_ 0 _ rfl; (with_reducible repeat (first | refine blk_drewN ?_ _ | refine blk_drew ?_ | refine blk_alloc ?_ _)); exact BK168.out⟩, ⟨by repeat (first | (with_reducible first | exact HB.out | apply below_alloc | apply pw_below_drewN | apply below_drew1 | refine below_set ?_ GE167.out | refine below_set ?_ GE168.out) | exact HB.out)⟩⟩
          case rest =>
            clear HC15
            try clear c1
            try clear p2
            try clear c6
            try clear c10
            try clear c10b0
            try clear c10b1
            try clear c11
            try clear c14
            try clear c14b0
            try clear c14b1
            try clear c16
            try clear c16b0
            try clear c17
            try clear c19
            try clear hcz12_0
            try clear hcz12_1
            try clear hcz12_2
            try clear hcz13_0
            try clear hcz13_1
            try clear hcz13_2
            try clear hcz18_0
            try clear hcz18_1
            try clear hcz18_2
            try clear hcz20_0
            try clear hcz20_1
            try clear hcz20_2
            try clear hcz4_0
            try clear hcz4_1
            try clear hcz4_2
            try clear hcz7_0
            try clear hcz7_1
            try clear hcz7_2
            try clear hcz8_0
            try clear hcz8_1
            try clear hcz8_2
            try clear hfz12_0
            try clear hfz12_1
            try clear hfz12_2
            try clear hfz13_0
            try clear hfz13_1
            try clear hfz13_2
            try clear hfz18_0
            try clear hfz18_1
            try clear hfz18_2
            try clear hfz20_0
            try clear hfz20_1
            try clear hfz20_2
            try clear hfz4_0
            try clear hfz4_1
            try clear hfz4_2
            try clear hfz7_0
            try clear hfz7_1
            try clear hfz7_2
            try clear hfz8_0
            try clear hfz8_1
            try clear hfz8_2
            obtain ⟨kq, x29_14, rfl, HA, HJ14, BK167, BK168, HB⟩ := hcut
            cases kq with
            | zero => exact absurd HA.out (by simp [value_Right.j2])
            | succ kj14 =>
              have H := HA.out
              clear HA
              simp only [value_Right.j2] at H
              by_cases c21 : x29_14 = true
              · subst c21
                have H1 : (some false) = some r := by rw [if_pos rfl] at H; exact H
                clear H
                have H := H1
                clear H1
                obtain rfl := Option.some.inj H
                go_wp2
                go_ret
                exact ⟨by first | rfl | (simp [errW_none, errW_some] <;> rfl) | (simp [*, errW_none, errW_some] <;> rfl) | (simp [*, errW_none, errW_some]; exact (fun (l_ : List UInt8) => (by cases l_ <;> rfl : l_.isEmpty = !(l_ != []))) _), by repeat (first | (with_reducible first | exact HB.out | apply below_alloc | apply pw_below_drewN | apply below_drew1 | refine below_set ?_ GE167.out | refine below_set ?_ GE168.out) | exact HB.out)⟩
              · replace c21 := Bool.eq_false_iff.mpr c21
                subst c21
                have H1 : (value_Right.j3 kj14 a0_0 a0_1 a0_2 a0_0 0 (⟨#[]⟩ : ByteArray)) = some r := by rw [if_neg (show ¬ (false = true) by decide)] at H; exact H
                clear H
                have H := H1
                clear H1
                have H' := Aside0.mk H
                clear H
                go_wp2
                go_meet
                case rel => exact ⟨_, ((⟨#[]⟩ : ByteArray)), H', ⟨by have := HJ14.out; first | omega | exact Nat.le_refl _⟩, ⟨by (with_reducible repeat (first | refine blk_drewN ?_ _ | refine blk_drew ?_ | refine blk_alloc ?_ _)); exact BK167.out⟩, ⟨by (with_reducible repeat (first | refine blk_drewN ?_ _ | refine blk_drew ?_ | refine blk_alloc ?_ _)); exact BK168.out⟩, ⟨by repeat (first | (with_reducible first | exact HB.out | apply below_alloc | apply pw_below_drewN | apply below_drew1 | refine below_set ?_ GE167.out | refine below_set ?_ GE168.out) | exact HB.out)⟩⟩
        · rw [if_neg c14] at H
          have c14b0 : (a0_0 == 2) = false := beq_eq_false_iff_ne.mpr c14
          have c14b1 : (a0_0 != 2) = true := bne_iff_ne.mpr c14
          have HC22 := Aside0.mk H
          clear H
          go_upto_if 13 with (fail)
          go_cut [13] (fun v13 wc => ∃ (kq : Nat) (x13_21 : Bool), v13 = .bool x13_21 ∧ Aside0 (value_Right.j0 kq a0_0 x13_21 a0_0 a0_1 a0_2 a0_0 0 (⟨#[]⟩ : ByteArray) = some r) ∧ Aside0 (kq ≤ k) ∧ Aside0 (wc.heap[gb167]? = some (.cells #[.int .i64 a0_0, .int .i64 a0_1, .string a0_2] 23 (0, 0))) ∧ Aside0 (wc.heap[gb168]? = some (.cells #[.int .i64 a0_0, .int .i64 0, .string (⟨#[]⟩ : ByteArray)] 23 (0, 0))) ∧ Aside0 (Below w.heap.size w wc))
          case first =>
            have H := HC22.out
            clear HC22
            by_cases c23 : a0_0 = 3
            · rw [if_pos c23] at H
              have c23b0 : (a0_0 == 3) = true := beq_iff_eq.mpr c23
              have c23b1 : (a0_0 != 3) = false := bne_eq_false_iff_eq.mpr c23
              clear c23
              (first | rw [c23b0] | (simp only [i64_w, i32_w]; rw [c23b0]) | skip)
              have H' := Aside0.mk H
              clear H
              go_wp2
              go_meet
              case rel => exact ⟨_, ((a0_0 == 3)), (by first | rfl | (simp; done) | (simp [*]; done) | (simp [*]; exact (fun (l_ : List UInt8) => (by cases l_ <;> rfl : l_.isEmpty = !(l_ != []))) _)), H', ⟨by first | omega | exact Nat.le_refl _⟩, ⟨by (with_reducible repeat (first | refine blk_drewN ?_ _ | refine blk_drew ?_ | refine blk_alloc ?_ _)); refine blk_far ?_ NB167_168.out _; (with_reducible repeat (first | refine blk_drewN ?_ _ | refine blk_drew ?_ | refine blk_alloc ?_ _)); refine blk_far ?_ NB167_168.out _; (with_reducible repeat (first | refine blk_drewN ?_ _ | refine blk_drew ?_ | refine blk_alloc ?_ _)); refine blk_far ?_ NB167_168.out _; (with_reducible repeat (first | refine blk_drewN ?_ _ | refine blk_drew ?_ | refine blk_alloc ?_ _)); exact BK167.out⟩, ⟨by (with_reducible repeat (first | refine blk_drewN ?_ _ | refine blk_drew ?_ | refine blk_alloc ?_ _)); refine blk_put (cs := #[.int .i64 a0_0, .int .i64 0, .string (⟨#[]⟩ : ByteArray)]) ?_ 2 _ rfl; (with_reducible repeat (first | refine blk_drewN ?_ _ | refine blk_drew ?_ | refine blk_alloc ?_ _)); refine blk_put (cs := #[.int .i64 a0_0, .int .i64 0, .string (⟨#[]⟩ : ByteArray)]) ?_ 1 _ rfl; (with_reducible repeat (first | refine blk_drewN ?_ _ | refine blk_drew ?_ | refine blk_alloc ?_ _)); refine blk_put (cs := #[.int .i64 0, .int .i64 0, .string (⟨#[]⟩ : ByteArray)]) ?_ 0 _ rfl; (with_reducible repeat (first | refine blk_drewN ?_ _ | refine blk_drew ?_ | refine blk_alloc ?_ _)); exact BK168.out⟩, ⟨by repeat (first | (with_reducible first | exact HB.out | apply below_alloc | apply pw_below_drewN | apply below_drew1 | refine below_set ?_ GE167.out | refine below_set ?_ GE168.out) | exact HB.out)⟩⟩
            · rw [if_neg c23] at H
              have c23b0 : (a0_0 == 3) = false := beq_eq_false_iff_ne.mpr c23
              have c23b1 : (a0_0 != 3) = true := bne_iff_ne.mpr c23
              (first | rw [c23b0] | (simp only [i64_w, i32_w]; rw [c23b0]) | skip)
              have H' := Aside0.mk H
              clear H
              go_wp2
              go_meet
              case rel => exact ⟨_, ((a0_0 == 5)), (by first | rfl | (simp; done) | (simp [*]; done) | (simp [*]; exact (fun (l_ : List UInt8) => (by cases l_ <;> rfl : l_.isEmpty = !(l_ != []))) _)), H', ⟨by first | omega | exact Nat.le_refl _⟩, ⟨by (with_reducible repeat (first | refine blk_drewN ?_ _ | refine blk_drew ?_ | refine blk_alloc ?_ _)); refine blk_far ?_ NB167_168.out _; (with_reducible repeat (first | refine blk_drewN ?_ _ | refine blk_drew ?_ | refine blk_alloc ?_ _)); refine blk_far ?_ NB167_168.out _; (with_reducible repeat (first | refine blk_drewN ?_ _ | refine blk_drew ?_ | refine blk_alloc ?_ _)); refine blk_far ?_ NB167_168.out _; (with_reducible repeat (first | refine blk_drewN ?_ _ | refine blk_drew ?_ | refine blk_alloc ?_ _)); exact BK167.out⟩, ⟨by (with_reducible repeat (first | refine blk_drewN ?_ _ | refine blk_drew ?_ | refine blk_alloc ?_ _)); refine blk_put (cs := #[.int .i64 a0_0, .int .i64 0, .string (⟨#[]⟩ : ByteArray)]) ?_ 2 _ rfl; (with_reducible repeat (first | refine blk_drewN ?_ _ | refine blk_drew ?_ | refine blk_alloc ?_ _)); refine blk_put (cs := #[.int .i64 a0_0, .int .i64 0, .string (⟨#[]⟩ : ByteArray)]) ?_ 1 _ rfl; (with_reducible repeat (first | refine blk_drewN ?_ _ | refine blk_drew ?_ | refine blk_alloc ?_ _)); refine blk_put (cs := #[.int .i64 0, .int .i64 0, .string (⟨#[]⟩ : ByteArray)]) ?_ 0 _ rfl; (with_reducible repeat (first | refine blk_drewN ?_ _ | refine blk_drew ?_ | refine blk_alloc ?_ _)); exact BK168.out⟩, ⟨by repeat (first | (with_reducible first | exact HB.out | apply below_alloc | apply pw_below_drewN | apply below_drew1 | refine below_set ?_ GE167.out | refine below_set ?_ GE168.out) | exact HB.out)⟩⟩
          case rest =>
            clear HC22
            try clear c1
            try clear c2
            try clear p2
            try clear c6
            try clear c10
            try clear c10b0
            try clear c10b1
            try clear c11
            try clear c14
            try clear c14b0
            try clear c14b1
            try clear c16
            try clear c16b0
            try clear c17
            try clear c19
            try clear c21
            try clear c23
            try clear c23b0
            try clear c23b1
            try clear hcz12_0
            try clear hcz12_1
            try clear hcz12_2
            try clear hcz13_0
            try clear hcz13_1
            try clear hcz13_2
            try clear hcz18_0
            try clear hcz18_1
            try clear hcz18_2
            try clear hcz20_0
            try clear hcz20_1
            try clear hcz20_2
            try clear hcz4_0
            try clear hcz4_1
            try clear hcz4_2
            try clear hcz7_0
            try clear hcz7_1
            try clear hcz7_2
            try clear hcz8_0
            try clear hcz8_1
            try clear hcz8_2
            try clear hfz12_0
            try clear hfz12_1
            try clear hfz12_2
            try clear hfz13_0
            try clear hfz13_1
            try clear hfz13_2
            try clear hfz18_0
            try clear hfz18_1
            try clear hfz18_2
            try clear hfz20_0
            try clear hfz20_1
            try clear hfz20_2
            try clear hfz4_0
            try clear hfz4_1
            try clear hfz4_2
            try clear hfz7_0
            try clear hfz7_1
            try clear hfz7_2
            try clear hfz8_0
            try clear hfz8_1
            try clear hfz8_2
            try clear p2
            obtain ⟨kq, x13_21, rfl, HA, HJ21, BK167, BK168, HB⟩ := hcut
            cases kq with
            | zero => exact absurd HA.out (by simp [value_Right.j0])
            | succ kj21 =>
              have H := HA.out
              clear HA
              simp only [value_Right.j0] at H
              by_cases c24 : x13_21 = true
              · subst c24
                have H1 : (value_Right.j3 kj21 a0_0 a0_1 a0_2 a0_0 0 (⟨#[]⟩ : ByteArray)) = some r := by rw [if_pos rfl] at H; exact H
                clear H
                have H := H1
                clear H1
                have H' := Aside0.mk H
                clear H
                go_wp2
                go_meet
                case rel => exact ⟨_, ((⟨#[]⟩ : ByteArray)), H', ⟨by have := HJ21.out; first | omega | exact Nat.le_refl _⟩, ⟨by (with_reducible repeat (first | refine blk_drewN ?_ _ | refine blk_drew ?_ | refine blk_alloc ?_ _)); exact BK167.out⟩, ⟨by (with_reducible repeat (first | refine blk_drewN ?_ _ | refine blk_drew ?_ | refine blk_alloc ?_ _)); exact BK168.out⟩, ⟨by repeat (first | (with_reducible first | exact HB.out | apply below_alloc | apply pw_below_drewN | apply below_drew1 | refine below_set ?_ GE167.out | refine below_set ?_ GE168.out) | exact HB.out)⟩⟩
              · replace c24 := Bool.eq_false_iff.mpr c24
                subst c24
                have H1 : (if a0_0 = 0 then (value_Right.j1 kj21 (a0_0 == 0) a0_0 a0_1 a0_2 a0_0 0 (⟨#[]⟩ : ByteArray)) else (value_Right.j1 kj21 (a0_0 == 1) a0_0 a0_1 a0_2 a0_0 0 (⟨#[]⟩ : ByteArray))) = some r := by rw [if_neg (show ¬ (false = true) by decide)] at H; exact H
                clear H
                have H := H1
                clear H1
                have HC25 := Aside0.mk H
                clear H
                go_upto_if 16 with (fail)
                go_cut [16] (fun v16 wc => ∃ (kq : Nat) (x16_24 : Bool), v16 = .bool x16_24 ∧ Aside0 (value_Right.j1 kq x16_24 a0_0 a0_1 a0_2 a0_0 0 (⟨#[]⟩ : ByteArray) = some r) ∧ Aside0 (kq ≤ kj21) ∧ Aside0 (wc.heap[gb167]? = some (.cells #[.int .i64 a0_0, .int .i64 a0_1, .string a0_2] 23 (0, 0))) ∧ Aside0 (wc.heap[gb168]? = some (.cells #[.int .i64 a0_0, .int .i64 0, .string (⟨#[]⟩ : ByteArray)] 23 (0, 0))) ∧ Aside0 (Below w.heap.size w wc))
                case first =>
                  have H := HC25.out
                  clear HC25
                  by_cases c26 : a0_0 = 0
                  · rw [if_pos c26] at H
                    have c26b0 : (a0_0 == 0) = true := beq_iff_eq.mpr c26
                    have c26b1 : (a0_0 != 0) = false := bne_eq_false_iff_eq.mpr c26
                    clear c26
                    (first | rw [c26b0] | (simp only [i64_w, i32_w]; rw [c26b0]) | skip)
                    have H' := Aside0.mk H
                    clear H
                    go_wp2
                    go_meet
                    case rel => exact ⟨_, ((a0_0 == 0)), (by first | rfl | (simp; done) | (simp [*]; done) | (simp [*]; exact (fun (l_ : List UInt8) => (by cases l_ <;> rfl : l_.isEmpty = !(l_ != []))) _)), H', ⟨by have := HJ21.out; first | omega | exact Nat.le_refl _⟩, ⟨by (with_reducible repeat (first | refine blk_drewN ?_ _ | refine blk_drew ?_ | refine blk_alloc ?_ _)); exact BK167.out⟩, ⟨by (with_reducible repeat (first | refine blk_drewN ?_ _ | refine blk_drew ?_ | refine blk_alloc ?_ _)); exact BK168.out⟩, ⟨by repeat (first | (with_reducible first | exact HB.out | apply below_alloc | apply pw_below_drewN | apply below_drew1 | refine below_set ?_ GE167.out | refine below_set ?_ GE168.out) | exact HB.out)⟩⟩
                  · rw [if_neg c26] at H
                    have c26b0 : (a0_0 == 0) = false := beq_eq_false_iff_ne.mpr c26
                    have c26b1 : (a0_0 != 0) = true := bne_iff_ne.mpr c26
                    (first | rw [c26b0] | (simp only [i64_w, i32_w]; rw [c26b0]) | skip)
                    have H' := Aside0.mk H
                    clear H
                    go_wp2
                    go_meet
                    case rel => exact ⟨_, ((a0_0 == 1)), (by first | rfl | (simp; done) | (simp [*]; done) | (simp [*]; exact (fun (l_ : List UInt8) => (by cases l_ <;> rfl : l_.isEmpty = !(l_ != []))) _)), H', ⟨by have := HJ21.out; first | omega | exact Nat.le_refl _⟩, ⟨by (with_reducible repeat (first | refine blk_drewN ?_ _ | refine blk_drew ?_ | refine blk_alloc ?_ _)); exact BK167.out⟩, ⟨by (with_reducible repeat (first | refine blk_drewN ?_ _ | refine blk_drew ?_ | refine blk_alloc ?_ _)); exact BK168.out⟩, ⟨by repeat (first | (with_reducible first | exact HB.out | apply below_alloc | apply pw_below_drewN | apply below_drew1 | refine below_set ?_ GE167.out | refine below_set ?_ GE168.out) | exact HB.out)⟩⟩
                case rest =>
                  clear HC25
                  try clear c1
                  try clear c2
                  try clear p2
                  try clear c6
                  try clear c10
                  try clear c10b0
                  try clear c10b1
                  try clear c11
                  try clear c14
                  try clear c14b0
                  try clear c14b1
                  try clear c16
                  try clear c16b0
                  try clear c17
                  try clear c19
                  try clear c21
                  try clear c23
                  try clear c23b0
                  try clear c23b1
                  try clear c24
                  try clear c26
                  try clear c26b0
                  try clear c26b1
                  try clear hcz12_0
                  try clear hcz12_1
                  try clear hcz12_2
                  try clear hcz13_0
                  try clear hcz13_1
                  try clear hcz13_2
                  try clear hcz18_0
                  try clear hcz18_1
                  try clear hcz18_2
                  try clear hcz20_0
                  try clear hcz20_1
                  try clear hcz20_2
                  try clear hcz4_0
                  try clear hcz4_1
                  try clear hcz4_2
                  try clear hcz7_0
                  try clear hcz7_1
                  try clear hcz7_2
                  try clear hcz8_0
                  try clear hcz8_1
                  try clear hcz8_2
                  try clear hfz12_0
                  try clear hfz12_1
                  try clear hfz12_2
                  try clear hfz13_0
                  try clear hfz13_1
                  try clear hfz13_2
                  try clear hfz18_0
                  try clear hfz18_1
                  try clear hfz18_2
                  try clear hfz20_0
                  try clear hfz20_1
                  try clear hfz20_2
                  try clear hfz4_0
                  try clear hfz4_1
                  try clear hfz4_2
                  try clear hfz7_0
                  try clear hfz7_1
                  try clear hfz7_2
                  try clear hfz8_0
                  try clear hfz8_1
                  try clear hfz8_2
                  try clear p2
                  obtain ⟨kq, x16_24, rfl, HA, HJ24, BK167, BK168, HB⟩ := hcut
                  cases kq with
                  | zero => exact absurd HA.out (by simp [value_Right.j1])
                  | succ kj24 =>
                    have H := HA.out
                    clear HA
                    simp only [value_Right.j1] at H
                    by_cases c27 : x16_24 = true
                    · subst c27
                      have H1 : (value_Right.j4 kj24 a0_0 a0_1 a0_2 a0_0 0 (⟨#[]⟩ : ByteArray)) = some r := by rw [if_pos rfl] at H; exact H
                      clear H
                      have H := H1
                      clear H1
                      have H' := Aside0.mk H
                      clear H
                      go_wp2
                      go_meet
                      case rel => exact ⟨_, (0), ((⟨#[]⟩ : ByteArray)), H', ⟨by have := HJ21.out; have := HJ24.out; first | omega | exact Nat.le_refl _⟩, ⟨by (with_reducible repeat (first | refine blk_drewN ?_ _ | refine blk_drew ?_ | refine blk_alloc ?_ _)); exact BK167.out⟩, ⟨by (with_reducible repeat (first | refine blk_drewN ?_ _ | refine blk_drew ?_ | refine blk_alloc ?_ _)); exact BK168.out⟩, ⟨by repeat (first | (with_reducible first | exact HB.out | apply below_alloc | apply pw_below_drewN | apply below_drew1 | refine below_set ?_ GE167.out | refine below_set ?_ GE168.out) | exact HB.out)⟩⟩
                    · replace c27 := Bool.eq_false_iff.mpr c27
                      subst c27
                      have H1 : (some false) = some r := by rw [if_neg (show ¬ (false = true) by decide)] at H; exact H
                      clear H
                      have H := H1
                      clear H1
                      obtain rfl := Option.some.inj H
                      go_wp2
                      go_ret
                      exact ⟨by first | rfl | (simp [errW_none, errW_some] <;> rfl) | (simp [*, errW_none, errW_some] <;> rfl) | (simp [*, errW_none, errW_some]; exact (fun (l_ : List UInt8) => (by cases l_ <;> rfl : l_.isEmpty = !(l_ != []))) _), by repeat (first | (with_reducible first | exact HB.out | apply below_alloc | apply pw_below_drewN | apply below_drew1 | refine below_set ?_ GE167.out | refine below_set ?_ GE168.out) | exact HB.out)⟩
    case rest =>
      clear HC9
      try clear c1
      try clear c2
      try clear p2
      try clear c6
      try clear c10
      try clear c10b0
      try clear c10b1
      try clear c11
      try clear c14
      try clear c14b0
      try clear c14b1
      try clear c16
      try clear c16b0
      try clear c17
      try clear c19
      try clear c21
      try clear c23
      try clear c23b0
      try clear c23b1
      try clear c24
      try clear c26
      try clear c26b0
      try clear c26b1
      try clear c27
      try clear hcz12_0
      try clear hcz12_1
      try clear hcz12_2
      try clear hcz13_0
      try clear hcz13_1
      try clear hcz13_2
      try clear hcz18_0
      try clear hcz18_1
      try clear hcz18_2
      try clear hcz20_0
      try clear hcz20_1
      try clear hcz20_2
      try clear hcz4_0
      try clear hcz4_1
      try clear hcz4_2
      try clear hcz7_0
      try clear hcz7_1
      try clear hcz7_2
      try clear hcz8_0
      try clear hcz8_1
      try clear hcz8_2
      try clear hfz12_0
      try clear hfz12_1
      try clear hfz12_2
      try clear hfz13_0
      try clear hfz13_1
      try clear hfz13_2
      try clear hfz18_0
      try clear hfz18_1
      try clear hfz18_2
      try clear hfz20_0
      try clear hfz20_1
      try clear hfz20_2
      try clear hfz4_0
      try clear hfz4_1
      try clear hfz4_2
      try clear hfz7_0
      try clear hfz7_1
      try clear hfz7_2
      try clear hfz8_0
      try clear hfz8_1
      try clear hfz8_2
      try clear p2
      obtain ⟨kq, x169002_8, HA, HJ8, BK167, BK168, HB⟩ := hcut
      cases kq with
      | zero => exact absurd HA.out (by simp [value_Right.j3])
      | succ kj8 =>
        have H := HA.out
        clear HA
        simp only [value_Right.j3] at H
        have H' := Aside0.mk H
        clear H
        have hnb28 := NB167_168.out
        have hnc28 := NB168_167.out
        have hcz29_0 : wc.cell? ⟨gb167, 0, none⟩ = some (.int .i64 a0_0) := (blk_cell BK167.out 0).trans rfl
        have hcz29_1 : wc.cell? ⟨gb167, 1, none⟩ = some (.int .i64 a0_1) := (blk_cell BK167.out 1).trans rfl
        have hcz29_2 : wc.cell? ⟨gb167, 2, none⟩ = some (.string a0_2) := (blk_cell BK167.out 2).trans rfl
        have hfz29_0 := blk_frozen BK167.out 0
        have hfz29_1 := blk_frozen BK167.out 1
        have hfz29_2 := blk_frozen BK167.out 2
        have hcz30_0 : wc.cell? ⟨gb168, 0, none⟩ = some (.int .i64 a0_0) := (blk_cell BK168.out 0).trans rfl
        have hcz30_1 : wc.cell? ⟨gb168, 1, none⟩ = some (.int .i64 0) := (blk_cell BK168.out 1).trans rfl
        have hcz30_2 : wc.cell? ⟨gb168, 2, none⟩ = some (.string x169002_8) := (blk_cell BK168.out 2).trans rfl
        have hfz30_0 := blk_frozen BK168.out 0
        have hfz30_1 := blk_frozen BK168.out 1
        have hfz30_2 := blk_frozen BK168.out 2
        go_wp2
        go_meet
        case rel => exact ⟨_, (a0_1), (x169002_8), H', ⟨by have := HJ8.out; first | omega | exact Nat.le_refl _⟩, ⟨by (with_reducible repeat (first | refine blk_drewN ?_ _ | refine blk_drew ?_ | refine blk_alloc ?_ _)); refine blk_far ?_ NB167_168.out _; (with_reducible repeat (first | refine blk_drewN ?_ _ | refine blk_drew ?_ | refine blk_alloc ?_ _)); exact BK167.out⟩, ⟨by (with_reducible repeat (first | refine blk_drewN ?_ _ | refine blk_drew ?_ | refine blk_alloc ?_ _)); refine blk_put (cs := #[.int .i64 a0_0, .int .i64 0, .string x169002_8]) ?_ 1 _ rfl; (with_reducible repeat (first | refine blk_drewN ?_ _ | refine blk_drew ?_ | refine blk_alloc ?_ _)); exact BK168.out⟩, ⟨by repeat (first | (with_reducible first | exact HB.out | apply below_alloc | apply pw_below_drewN | apply below_drew1 | refine below_set ?_ GE167.out | refine below_set ?_ GE168.out) | exact HB.out)⟩⟩
  case rest =>
    clear HC2
    try clear c1
    try clear c2
    try clear p2
    try clear c6
    try clear c10
    try clear c10b0
    try clear c10b1
    try clear c11
    try clear c14
    try clear c14b0
    try clear c14b1
    try clear c16
    try clear c16b0
    try clear c17
    try clear c19
    try clear c21
    try clear c23
    try clear c23b0
    try clear c23b1
    try clear c24
    try clear c26
    try clear c26b0
    try clear c26b1
    try clear c27
    try clear c28
    try clear hcz12_0
    try clear hcz12_1
    try clear hcz12_2
    try clear hcz13_0
    try clear hcz13_1
    try clear hcz13_2
    try clear hcz18_0
    try clear hcz18_1
    try clear hcz18_2
    try clear hcz20_0
    try clear hcz20_1
    try clear hcz20_2
    try clear hcz29_0
    try clear hcz29_1
    try clear hcz29_2
    try clear hcz30_0
    try clear hcz30_1
    try clear hcz30_2
    try clear hcz4_0
    try clear hcz4_1
    try clear hcz4_2
    try clear hcz7_0
    try clear hcz7_1
    try clear hcz7_2
    try clear hcz8_0
    try clear hcz8_1
    try clear hcz8_2
    try clear hfz12_0
    try clear hfz12_1
    try clear hfz12_2
    try clear hfz13_0
    try clear hfz13_1
    try clear hfz13_2
    try clear hfz18_0
    try clear hfz18_1
    try clear hfz18_2
    try clear hfz20_0
    try clear hfz20_1
    try clear hfz20_2
    try clear hfz29_0
    try clear hfz29_1
    try clear hfz29_2
    try clear hfz30_0
    try clear hfz30_1
    try clear hfz30_2
    try clear hfz4_0
    try clear hfz4_1
    try clear hfz4_2
    try clear hfz7_0
    try clear hfz7_1
    try clear hfz7_2
    try clear hfz8_0
    try clear hfz8_1
    try clear hfz8_2
    try clear p2
    obtain ⟨kq, x169001_1, x169002_1, HA, HJ1, BK167, BK168, HB⟩ := hcut
    cases kq with
    | zero => exact absurd HA.out (by simp [value_Right.j4])
    | succ kj1 =>
      have H := HA.out
      clear HA
      simp only [value_Right.j4] at H
      obtain rfl := Option.some.inj H
      have hnb31 := NB167_168.out
      have hnc31 := NB168_167.out
      have hcz32_0 : wc.cell? ⟨gb167, 0, none⟩ = some (.int .i64 a0_0) := (blk_cell BK167.out 0).trans rfl
      have hcz32_1 : wc.cell? ⟨gb167, 1, none⟩ = some (.int .i64 a0_1) := (blk_cell BK167.out 1).trans rfl
      have hcz32_2 : wc.cell? ⟨gb167, 2, none⟩ = some (.string a0_2) := (blk_cell BK167.out 2).trans rfl
      have hfz32_0 := blk_frozen BK167.out 0
      have hfz32_1 := blk_frozen BK167.out 1
      have hfz32_2 := blk_frozen BK167.out 2
      have hcz33_0 : wc.cell? ⟨gb168, 0, none⟩ = some (.int .i64 a0_0) := (blk_cell BK168.out 0).trans rfl
      have hcz33_1 : wc.cell? ⟨gb168, 1, none⟩ = some (.int .i64 x169001_1) := (blk_cell BK168.out 1).trans rfl
      have hcz33_2 : wc.cell? ⟨gb168, 2, none⟩ = some (.string x169002_1) := (blk_cell BK168.out 2).trans rfl
      have hfz33_0 := blk_frozen BK168.out 0
      have hfz33_1 := blk_frozen BK168.out 1
      have hfz33_2 := blk_frozen BK168.out 2
      go_wp2
      go_ret
      exact ⟨by first | rfl | (simp [errW_none, errW_some] <;> rfl) | (simp [*, errW_none, errW_some] <;> rfl) | (simp [*, errW_none, errW_some]; exact (fun (l_ : List UInt8) => (by cases l_ <;> rfl : l_.isEmpty = !(l_ != []))) _), by repeat (first | (with_reducible first | exact HB.out | apply below_alloc | apply pw_below_drewN | apply below_drew1 | refine below_set ?_ GE167.out | refine below_set ?_ GE168.out) | exact HB.out)⟩
end Go.Proofs.YtmdchbenalhpjaaDoor.Pr

