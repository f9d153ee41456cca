/- Lemmas for the claim (what no proof of it names is left out). -/
import Derived.Shelf.Strings.Builder1
import Derived.Shelf.Strings.Builder2
import Derived.Shelf.Strings.OnBuilder
import Derived.Shelf.Strings.BuilderF
import Derived.Shelf.Strings.BuilderK
import Derived.Shelf.Utf8.RuneCount
import Derived.Shelf.Strings.Builder2Cap
import Derived.Shelf.Strconv.Atoi
import Derived.Shelf.Strconv.Itoa0
import Derived.Shelf.Strconv.Itoa1
import Derived.Shelf.LaysM
import Derived.Shelf.Strconv.Itoa2
import Derived.Shelf.Strconv.Itoa3
import Derived.Shelf.Strconv.AtoiErrFast
import Derived.Shelf.Strconv.ParseIntEmpty
import Derived.Shelf.Strconv.AtoiFail
import Derived.Shelf.Strconv.Clone
import Derived.Shelf.Strconv.SyntaxError
import Derived.Shelf.LaysC
import Derived.Shelf.Strconv.ToError
import Derived.Shelf.Strconv.Lower
import Derived.Shelf.Strconv.ParseUint10
import Derived.Shelf.Strconv.ParseUint10Empty
import Derived.Shelf.Strconv.ParseUint10Any
import Derived.Shelf.Strconv.ParseInt10
import Derived.Shelf.Strconv.AtoiLong
import Derived.Shelf.Strconv.AtoiInnerAll
import Derived.Shelf.Strconv.RangeError
import Derived.Shelf.Strconv.ToErrorRange
import Derived.Shelf.Strconv.AtoiAll
import Derived.Shelf.Strconv.ErrVarAll
import Derived.Shelf.Strings.Search1
import Derived.Shelf.Strings.Search2
import Derived.Shelf.Strings.Search3
import Derived.Shelf.Strings.Count
import Derived.Shelf.Strings.Shaped
import Derived.Shelf.Strings.Split
import Derived.Shelf.Strings.SplitShaped
import Derived.Shelf.Unicode.Decode
import Derived.Shelf.Strings.RuneCount
import Derived.Shelf.Strings.Explode
import Derived.Shelf.Unicode.DecodeSlow
import Derived.Shelf.Unicode.DecodeAny
import Derived.Shelf.Strings.BuilderCap
import Derived.Test.YtiapfhlipoomaaaDoorProg
import Derived.Test.YtiapfhlipoomaaaDoorTbA
import Derived.Lib.AppendIntMem
import Derived.OpenShut
import Derived.Lib.Builder
import Derived.Lib.AppendStr
import Derived.Lib.MakeNoZero
import Derived.Laws.Externs
import Derived.Lib.Join
import Derived.Deep.RegionHeld3
section
namespace Go.Proofs
open Go.Shelf
def Tryd.lays169_ren : Go.Shelf.Ren := ⟨fun | 169 => 34 | n => n, fun | 70 => 58 | 9 => 9 | 0 => 0 | 72 => 61 | 37 => 59 | 127 => 74 | 3 => 3 | 5 => 5 | n => n, fun | n => n⟩
theorem Tryd.lays169 : Go.Proofs.Lays.n169 Tryd.prog Tryd.lays169_ren := {
  mixed := by kernel_rfl
  f169 := Tryd.func34.trans (congrArg some (by kernel_rfl))
  t0 := Tryd.underlying0
  a0 := Tryd.isAgg0
  z0 := Tryd.sizeOf0
  v0 := Tryd.zeroValue0
  t3 := Tryd.underlying3
  a3 := Tryd.isAgg3
  z3 := Tryd.sizeOf3
  v3 := Tryd.zeroValue3
  t9 := Tryd.underlying9
  a9 := Tryd.isAgg9
  z9 := Tryd.sizeOf9
  v9 := Tryd.zeroValue9
  t37 := Tryd.underlying59
  a37 := Tryd.isAgg59
  z37 := Tryd.sizeOf59
  v37 := Tryd.zeroValue59
  t70 := Tryd.underlying58
  a70 := Tryd.isAgg58
  z70 := Tryd.sizeOf58
  v70 := Tryd.zeroValue58
  t72 := Tryd.underlying61
  a72 := Tryd.isAgg61
  z72 := Tryd.sizeOf61
  v72 := Tryd.zeroValue61
  t127 := Tryd.underlying74
  a127 := Tryd.isAgg74
  z127 := Tryd.sizeOf74
  v127 := Tryd.zeroValue74 }
theorem Tryd.Builder_Extra_169 : Builder.Extra Tryd.prog Tryd.lays169_ren := {
  sizeBuilder := by kernel_rfl
  liesBuilder := by kernel_rfl
  t5 := Tryd.underlying5
  a5 := Tryd.isAgg5
  z5 := Tryd.sizeOf5
  v5 := Tryd.zeroValue5
  infoByte := by kernel_rfl
  cellsByte := by kernel_rfl
  sizeByte := by kernel_rfl
  neB5 := by decide }
open Go.RowKit in
theorem Tryd.Builder_String_any (B b : Nat) (l : List UInt8) (w : World) (h : Lib.IsBuilder 61 5 B b (Lib.byteCells l) w) (hBw : B ≤ w.heap.size) :
    Calls Tryd.prog 34 #[.pointer (some ⟨b, 0, none⟩)] w fun e w' => e = .returned (.string ⟨l.toArray⟩) ∧ Below B w w' := Any.Builder_String_any Tryd.lays169 Tryd.Builder_Extra_169 B b l w h hBw
def Tryd.lays156_ren : Go.Shelf.Ren := ⟨fun | 156 => 45 | 165 => 55 | 166 => 44 | 169 => 34 | 240 => 54 | 241 => 65 | 276 => 64 | 277 => 75 | n => n, fun | 31 => 46 | 9 => 9 | 3 => 3 | 4 => 4 | 0 => 0 | 20 => 20 | 72 => 61 | 76 => 70 | 70 => 58 | 37 => 59 | 75 => 69 | 127 => 74 | 164 => 92 | 5 => 5 | 80 => 63 | n => n, fun | n => n⟩
theorem Tryd.lays156 : Go.Proofs.Lays.n156 Tryd.prog Tryd.lays156_ren := {
  mixed := by kernel_rfl
  f156 := Tryd.func45.trans (congrArg some (by kernel_rfl))
  f165 := Tryd.func55.trans (congrArg some (by kernel_rfl))
  f166 := Tryd.func44.trans (congrArg some (by kernel_rfl))
  f169 := Tryd.func34.trans (congrArg some (by kernel_rfl))
  f240 := Tryd.func54.trans (congrArg some (by kernel_rfl))
  f241 := Tryd.func65.trans (congrArg some (by kernel_rfl))
  f276 := Tryd.func64.trans (congrArg some (by kernel_rfl))
  f277 := Tryd.func75.trans (congrArg some (by kernel_rfl))
  t0 := Tryd.underlying0
  a0 := Tryd.isAgg0
  z0 := Tryd.sizeOf0
  v0 := Tryd.zeroValue0
  t3 := Tryd.underlying3
  a3 := Tryd.isAgg3
  z3 := Tryd.sizeOf3
  v3 := Tryd.zeroValue3
  t4 := Tryd.underlying4
  a4 := Tryd.isAgg4
  z4 := Tryd.sizeOf4
  v4 := Tryd.zeroValue4
  t9 := Tryd.underlying9
  a9 := Tryd.isAgg9
  z9 := Tryd.sizeOf9
  v9 := Tryd.zeroValue9
  t20 := Tryd.underlying20
  a20 := Tryd.isAgg20
  z20 := Tryd.sizeOf20
  v20 := Tryd.zeroValue20
  t31 := Tryd.underlying46
  a31 := Tryd.isAgg46
  z31 := Tryd.sizeOf46
  v31 := Tryd.zeroValue46
  t37 := Tryd.underlying59
  a37 := Tryd.isAgg59
  z37 := Tryd.sizeOf59
  v37 := Tryd.zeroValue59
  t70 := Tryd.underlying58
  a70 := Tryd.isAgg58
  z70 := Tryd.sizeOf58
  v70 := Tryd.zeroValue58
  t72 := Tryd.underlying61
  a72 := Tryd.isAgg61
  z72 := Tryd.sizeOf61
  v72 := Tryd.zeroValue61
  t75 := Tryd.underlying69
  a75 := Tryd.isAgg69
  z75 := Tryd.sizeOf69
  v75 := Tryd.zeroValue69
  t76 := Tryd.underlying70
  a76 := Tryd.isAgg70
  z76 := Tryd.sizeOf70
  v76 := Tryd.zeroValue70
  t127 := Tryd.underlying74
  a127 := Tryd.isAgg74
  z127 := Tryd.sizeOf74
  v127 := Tryd.zeroValue74
  t164 := Tryd.underlying92
  a164 := Tryd.isAgg92
  z164 := Tryd.sizeOf92
  v164 := Tryd.zeroValue92 }
theorem Tryd.Builder_Extra_156 : Builder.Extra Tryd.prog Tryd.lays156_ren := {
  sizeBuilder := by kernel_rfl
  liesBuilder := by kernel_rfl
  t5 := Tryd.underlying5
  a5 := Tryd.isAgg5
  z5 := Tryd.sizeOf5
  v5 := Tryd.zeroValue5
  infoByte := by kernel_rfl
  cellsByte := by kernel_rfl
  sizeByte := by kernel_rfl
  neB5 := by decide }
open Go.RowKit in
theorem Tryd.strings_Join (bk o c : Nat) (xs : List ByteArray) (sep : ByteArray) (w : World) (hcells : ∀ (j : Nat) x, xs[j]? = some x → w.cell? ⟨bk, o + j, none⟩ = some (.string x)) (hbk : bk < w.heap.size) (hN : xs.length ≤ 140737488355328) (hcap : xs.length ≤ c) (hlen : (Lib.join (xs.map (·.data.toList)) sep.data.toList).length ≤ 140737488355328) :
    Calls Tryd.prog 45 #[.slice (some ⟨bk, o, none⟩) xs.length c, .string sep] w fun e w' => e = .returned (.string ⟨(Lib.join (xs.map (·.data.toList)) sep.data.toList).toArray⟩) ∧ Below w.heap.size w w' := Any.strings_Join Tryd.lays156 Tryd.Builder_Extra_156 bk o c xs sep w hcells hbk hN hcap hlen
def Tryd.laysM171_ren : Go.Shelf.Ren := ⟨fun | 171 => 32 | 243 => 43 | 246 => 53 | 283 => 60 | 284 => 61 | 285 => 62 | 286 => 63 | 129 => 71 | 317 => 70 | 318 => 72 | 319 => 73 | 320 => 74 | 337 => 82 | 338 => 83 | n => n, fun | 3 => 3 | 9 => 9 | 2 => 2 | 4 => 4 | 171 => 86 | 0 => 0 | 53 => 87 | 37 => 59 | 5 => 5 | 173 => 90 | 212 => 98 | 51 => 99 | 20 => 20 | 213 => 100 | 46 => 84 | 232 => 116 | 233 => 117 | n => n, fun | 17 => 0 | 18 => 2 | 19 => 3 | n => n⟩
theorem Tryd.laysM171 : Go.Proofs.LaysM.n171 Tryd.prog Tryd.laysM171_ren := {
  mixed := by kernel_rfl
  f129 := Tryd.func71.trans (congrArg some (by kernel_rfl))
  f171 := Tryd.func32.trans (congrArg some (by kernel_rfl))
  f243 := Tryd.func43.trans (congrArg some (by kernel_rfl))
  f246 := Tryd.func53.trans (congrArg some (by kernel_rfl))
  f283 := Tryd.func60.trans (congrArg some (by kernel_rfl))
  f284 := Tryd.func61.trans (congrArg some (by kernel_rfl))
  f285 := Tryd.func62.trans (congrArg some (by kernel_rfl))
  f286 := Tryd.func63.trans (congrArg some (by kernel_rfl))
  f317 := Tryd.func70.trans (congrArg some (by kernel_rfl))
  f318 := Tryd.func72.trans (congrArg some (by kernel_rfl))
  f319 := Tryd.func73.trans (congrArg some (by kernel_rfl))
  f320 := Tryd.func74.trans (congrArg some (by kernel_rfl))
  f337 := Tryd.func82.trans (congrArg some (by kernel_rfl))
  f338 := Tryd.func83.trans (congrArg some (by kernel_rfl))
  t0 := Tryd.underlying0
  a0 := Tryd.isAgg0
  z0 := Tryd.sizeOf0
  v0 := Tryd.zeroValue0
  t2 := Tryd.underlying2
  a2 := Tryd.isAgg2
  z2 := Tryd.sizeOf2
  v2 := Tryd.zeroValue2
  t3 := Tryd.underlying3
  a3 := Tryd.isAgg3
  z3 := Tryd.sizeOf3
  v3 := Tryd.zeroValue3
  t4 := Tryd.underlying4
  a4 := Tryd.isAgg4
  z4 := Tryd.sizeOf4
  v4 := Tryd.zeroValue4
  t5 := Tryd.underlying5
  a5 := Tryd.isAgg5
  z5 := Tryd.sizeOf5
  v5 := Tryd.zeroValue5
  t9 := Tryd.underlying9
  a9 := Tryd.isAgg9
  z9 := Tryd.sizeOf9
  v9 := Tryd.zeroValue9
  t20 := Tryd.underlying20
  a20 := Tryd.isAgg20
  z20 := Tryd.sizeOf20
  v20 := Tryd.zeroValue20
  t37 := Tryd.underlying59
  a37 := Tryd.isAgg59
  z37 := Tryd.sizeOf59
  v37 := Tryd.zeroValue59
  t46 := Tryd.underlying84
  a46 := Tryd.isAgg84
  z46 := Tryd.sizeOf84
  v46 := Tryd.zeroValue84
  t51 := Tryd.underlying99
  a51 := Tryd.isAgg99
  z51 := Tryd.sizeOf99
  v51 := Tryd.zeroValue99
  t53 := Tryd.underlying87
  a53 := Tryd.isAgg87
  z53 := Tryd.sizeOf87
  v53 := Tryd.zeroValue87
  t171 := Tryd.underlying86
  a171 := Tryd.isAgg86
  z171 := Tryd.sizeOf86
  v171 := Tryd.zeroValue86
  t173 := Tryd.underlying90
  a173 := Tryd.isAgg90
  z173 := Tryd.sizeOf90
  v173 := Tryd.zeroValue90
  t212 := Tryd.underlying98
  a212 := Tryd.isAgg98
  z212 := Tryd.sizeOf98
  v212 := Tryd.zeroValue98
  t213 := Tryd.underlying100
  a213 := Tryd.isAgg100
  z213 := Tryd.sizeOf100
  t232 := Tryd.underlying116
  a232 := Tryd.isAgg116
  z232 := Tryd.sizeOf116
  v232 := Tryd.zeroValue116
  t233 := Tryd.underlying117
  a233 := Tryd.isAgg117
  z233 := Tryd.sizeOf117
  v233 := Tryd.zeroValue117
  g17 := by kernel_rfl
  g18 := by kernel_rfl
  g19 := by kernel_rfl
  i0 := by kernel_rfl
  i2 := by kernel_rfl
  i3 := by kernel_rfl
  i4 := by kernel_rfl
  i5 := by kernel_rfl
  i9 := by kernel_rfl
  i20 := by kernel_rfl
  i37 := by kernel_rfl
  i46 := by kernel_rfl
  i51 := by kernel_rfl
  i53 := by kernel_rfl
  i171 := by kernel_rfl
  i173 := by kernel_rfl
  i212 := by kernel_rfl
  i232 := by kernel_rfl
  i233 := by kernel_rfl
  m17 := by kernel_rfl
  m18 := by kernel_rfl
  m19 := by kernel_rfl }
open Go.RowKit Go.Sort Go.Lib in
theorem Tryd.strconv_Itoa (n : Int) (h0 : -9223372036854775808 ≤ n) (h1 : n ≤ 9223372036854775807) (w : World) (htab : Lib.TabIs Tryd.prog w "internal/strconv.uint64pow10" .u64 Lib.pow10Tab) :
    Calls Tryd.prog 32 #[.int .i64 n] w fun e w' => e = .returned (.string ⟨(Lib.itoa n).toArray⟩) ∧ ∃ k os, w' = grow (w.drewN k) os := Any.strconv_Itoa Tryd.laysM171 n h0 h1 w htab
def Tryd.laysC172_ren : Go.Shelf.Ren := ⟨fun | 172 => 69 | 244 => 80 | 245 => 81 | 247 => 89 | 279 => 90 | 280 => 91 | 281 => 92 | 282 => 93 | 287 => 96 | 316 => 97 | 171 => 32 | 205 => 98 | 321 => 99 | 322 => 100 | 243 => 43 | 246 => 53 | 283 => 60 | 284 => 61 | 285 => 62 | 286 => 63 | 129 => 71 | 317 => 70 | 318 => 72 | 319 => 73 | 320 => 74 | 337 => 82 | 338 => 83 | n => n, fun | 9 => 9 | 3 => 3 | 75 => 69 | 76 => 70 | 4 => 4 | 5 => 5 | 167 => 110 | 37 => 59 | 0 => 0 | 85 => 111 | 2 => 2 | 168 => 113 | 53 => 87 | 175 => 124 | 46 => 84 | 210 => 128 | 127 => 74 | 145 => 134 | 143 => 132 | 21 => 21 | 171 => 86 | 173 => 90 | 212 => 98 | 51 => 99 | 20 => 20 | 213 => 100 | 232 => 116 | 233 => 117 | 80 => 63 | n => n, fun | 15 => 6 | 16 => 7 | 17 => 0 | 18 => 2 | 19 => 3 | n => n⟩
theorem Tryd.laysC172 : Go.Proofs.LaysC.n172 Tryd.prog Tryd.laysC172_ren := {
  mixed := by kernel_rfl
  f129 := Tryd.func71.trans (congrArg some (by kernel_rfl))
  f171 := Tryd.func32.trans (congrArg some (by kernel_rfl))
  f172 := Tryd.func69.trans (congrArg some (by kernel_rfl))
  f205 := Tryd.func98.trans (congrArg some (by kernel_rfl))
  f243 := Tryd.func43.trans (congrArg some (by kernel_rfl))
  f244 := Tryd.func80.trans (congrArg some (by kernel_rfl))
  f245 := Tryd.func81.trans (congrArg some (by kernel_rfl))
  f246 := Tryd.func53.trans (congrArg some (by kernel_rfl))
  f247 := Tryd.func89.trans (congrArg some (by kernel_rfl))
  f279 := Tryd.func90.trans (congrArg some (by kernel_rfl))
  f280 := Tryd.func91.trans (congrArg some (by kernel_rfl))
  f281 := Tryd.func92.trans (congrArg some (by kernel_rfl))
  f282 := Tryd.func93.trans (congrArg some (by kernel_rfl))
  f283 := Tryd.func60.trans (congrArg some (by kernel_rfl))
  f284 := Tryd.func61.trans (congrArg some (by kernel_rfl))
  f285 := Tryd.func62.trans (congrArg some (by kernel_rfl))
  f286 := Tryd.func63.trans (congrArg some (by kernel_rfl))
  f287 := Tryd.func96.trans (congrArg some (by kernel_rfl))
  f316 := Tryd.func97.trans (congrArg some (by kernel_rfl))
  f317 := Tryd.func70.trans (congrArg some (by kernel_rfl))
  f318 := Tryd.func72.trans (congrArg some (by kernel_rfl))
  f319 := Tryd.func73.trans (congrArg some (by kernel_rfl))
  f320 := Tryd.func74.trans (congrArg some (by kernel_rfl))
  f321 := Tryd.func99.trans (congrArg some (by kernel_rfl))
  f322 := Tryd.func100.trans (congrArg some (by kernel_rfl))
  f337 := Tryd.func82.trans (congrArg some (by kernel_rfl))
  f338 := Tryd.func83.trans (congrArg some (by kernel_rfl))
  t0 := Tryd.underlying0
  a0 := Tryd.isAgg0
  z0 := Tryd.sizeOf0
  v0 := Tryd.zeroValue0
  t2 := Tryd.underlying2
  a2 := Tryd.isAgg2
  z2 := Tryd.sizeOf2
  v2 := Tryd.zeroValue2
  t3 := Tryd.underlying3
  a3 := Tryd.isAgg3
  z3 := Tryd.sizeOf3
  v3 := Tryd.zeroValue3
  t4 := Tryd.underlying4
  a4 := Tryd.isAgg4
  z4 := Tryd.sizeOf4
  v4 := Tryd.zeroValue4
  t5 := Tryd.underlying5
  a5 := Tryd.isAgg5
  z5 := Tryd.sizeOf5
  v5 := Tryd.zeroValue5
  t9 := Tryd.underlying9
  a9 := Tryd.isAgg9
  z9 := Tryd.sizeOf9
  v9 := Tryd.zeroValue9
  t20 := Tryd.underlying20
  a20 := Tryd.isAgg20
  z20 := Tryd.sizeOf20
  v20 := Tryd.zeroValue20
  t21 := Tryd.underlying21
  a21 := Tryd.isAgg21
  z21 := Tryd.sizeOf21
  v21 := Tryd.zeroValue21
  t37 := Tryd.underlying59
  a37 := Tryd.isAgg59
  z37 := Tryd.sizeOf59
  v37 := Tryd.zeroValue59
  t46 := Tryd.underlying84
  a46 := Tryd.isAgg84
  z46 := Tryd.sizeOf84
  v46 := Tryd.zeroValue84
  t51 := Tryd.underlying99
  a51 := Tryd.isAgg99
  z51 := Tryd.sizeOf99
  v51 := Tryd.zeroValue99
  t53 := Tryd.underlying87
  a53 := Tryd.isAgg87
  z53 := Tryd.sizeOf87
  v53 := Tryd.zeroValue87
  t75 := Tryd.underlying69
  a75 := Tryd.isAgg69
  z75 := Tryd.sizeOf69
  v75 := Tryd.zeroValue69
  t76 := Tryd.underlying70
  a76 := Tryd.isAgg70
  z76 := Tryd.sizeOf70
  v76 := Tryd.zeroValue70
  t85 := Tryd.underlying111
  a85 := Tryd.isAgg111
  z85 := Tryd.sizeOf111
  v85 := Tryd.zeroValue111
  t127 := Tryd.underlying74
  a127 := Tryd.isAgg74
  z127 := Tryd.sizeOf74
  v127 := Tryd.zeroValue74
  t143 := Tryd.underlying132
  a143 := Tryd.isAgg132
  z143 := Tryd.sizeOf132
  v143 := Tryd.zeroValue132
  t145 := Tryd.underlying134
  a145 := Tryd.isAgg134
  z145 := Tryd.sizeOf134
  v145 := Tryd.zeroValue134
  t167 := Tryd.underlying110
  a167 := Tryd.isAgg110
  z167 := Tryd.sizeOf110
  v167 := Tryd.zeroValue110
  t168 := Tryd.underlying113
  a168 := Tryd.isAgg113
  z168 := Tryd.sizeOf113
  v168 := Tryd.zeroValue113
  t171 := Tryd.underlying86
  a171 := Tryd.isAgg86
  z171 := Tryd.sizeOf86
  v171 := Tryd.zeroValue86
  t173 := Tryd.underlying90
  a173 := Tryd.isAgg90
  z173 := Tryd.sizeOf90
  v173 := Tryd.zeroValue90
  t175 := Tryd.underlying124
  a175 := Tryd.isAgg124
  z175 := Tryd.sizeOf124
  v175 := Tryd.zeroValue124
  t210 := Tryd.underlying128
  a210 := Tryd.isAgg128
  z210 := Tryd.sizeOf128
  v210 := Tryd.zeroValue128
  t212 := Tryd.underlying98
  a212 := Tryd.isAgg98
  z212 := Tryd.sizeOf98
  v212 := Tryd.zeroValue98
  t213 := Tryd.underlying100
  a213 := Tryd.isAgg100
  z213 := Tryd.sizeOf100
  t232 := Tryd.underlying116
  a232 := Tryd.isAgg116
  z232 := Tryd.sizeOf116
  v232 := Tryd.zeroValue116
  t233 := Tryd.underlying117
  a233 := Tryd.isAgg117
  z233 := Tryd.sizeOf117
  v233 := Tryd.zeroValue117
  g15 := by kernel_rfl
  g16 := by kernel_rfl
  g17 := by kernel_rfl
  g18 := by kernel_rfl
  g19 := by kernel_rfl
  t80 := Tryd.underlying63
  a80 := Tryd.isAgg63
  z80 := Tryd.sizeOf63
  v80 := Tryd.zeroValue63
  i0 := by kernel_rfl
  i2 := by kernel_rfl
  i3 := by kernel_rfl
  i4 := by kernel_rfl
  i5 := by kernel_rfl
  i9 := by kernel_rfl
  i20 := by kernel_rfl
  i21 := by kernel_rfl
  i37 := by kernel_rfl
  i46 := by kernel_rfl
  i51 := by kernel_rfl
  i53 := by kernel_rfl
  i75 := by kernel_rfl
  i76 := by kernel_rfl
  i80 := by kernel_rfl
  i85 := by kernel_rfl
  i127 := by kernel_rfl
  i143 := by kernel_rfl
  i145 := by kernel_rfl
  i167 := by kernel_rfl
  i168 := by kernel_rfl
  i171 := by kernel_rfl
  i173 := by kernel_rfl
  i175 := by kernel_rfl
  i210 := by kernel_rfl
  i212 := by kernel_rfl
  i232 := by kernel_rfl
  i233 := by kernel_rfl
  m15 := by kernel_rfl
  m16 := by kernel_rfl
  m17 := by kernel_rfl
  m18 := by kernel_rfl
  m19 := by kernel_rfl
  c0 := by kernel_rfl
  c2 := by kernel_rfl
  c3 := by kernel_rfl
  c4 := by kernel_rfl
  c5 := by kernel_rfl
  c9 := by kernel_rfl
  c20 := by kernel_rfl
  c21 := by kernel_rfl
  c37 := by kernel_rfl
  c46 := by kernel_rfl
  c51 := by kernel_rfl
  c53 := by kernel_rfl
  c75 := by kernel_rfl
  c76 := by kernel_rfl
  c80 := by kernel_rfl
  c85 := by kernel_rfl
  c127 := by kernel_rfl
  c143 := by kernel_rfl
  c145 := by kernel_rfl
  c167 := by kernel_rfl
  c168 := by kernel_rfl
  c171 := by kernel_rfl
  c173 := by kernel_rfl
  c175 := by kernel_rfl
  c210 := by kernel_rfl
  c212 := by kernel_rfl
  c213 := by kernel_rfl
  c232 := by kernel_rfl
  c233 := by kernel_rfl }
open Go.RowKit in
theorem Tryd.strconv_Atoi_ok (s : ByteArray) (hmax : s.size ≤ 9223372036854775806) (v : Int) (h : Lib.atoiAll s.data.toList = .ok v) (w : World) :
    Calls Tryd.prog 69 #[.string s] w fun e w' => e = .returned (.tuple #[.int .i64 v, .nilIface]) ∧ (w' = w ∨ ∃ t, w' = Lib.bytesWorld w 5 t) := Any.strconv_Atoi_ok Tryd.laysC172 s hmax v h w
open Go.RowKit in
theorem Tryd.strconv_Atoi_syntax (s : ByteArray) (hlim : s.size ≤ 281474976710656) (h : Lib.atoiAll s.data.toList = Lib.atoiAll []) (ev : Value) (w : World) (hv : w.cell? ⟨6, 0, none⟩ = some ev) (hev : ev = .nilIface ∨ ∃ te pe, ev = .iface te pe) :
    Calls Tryd.prog 69 #[.string s] w fun e w' => ∃ N, e = .returned (.tuple #[.int .i64 (0), .iface 113 (.pointer (some ⟨N, 0, none⟩))]) ∧ w.heap.size ≤ N ∧ w'.heap[N]? = some (.cells #[.string ⟨#[65, 116, 111, 105]⟩, .string s, ev] 128 (0, 0)) ∧ Below w.heap.size w w' := Any.strconv_Atoi_syntax Tryd.laysC172 s hlim (h.trans rfl) ev w hv hev
open Go.RowKit in
theorem Tryd.strconv_Atoi_range (s : ByteArray) (hlim : s.size ≤ 281474976710656) (h : Lib.atoiAll s.data.toList = .range) (ev : Value) (w : World) (hv : w.cell? ⟨7, 0, none⟩ = some ev) (hev : ev = .nilIface ∨ ∃ te pe, ev = .iface te pe) :
    Calls Tryd.prog 69 #[.string s] w fun e w' => ∃ N, e = .returned (.tuple #[.int .i64 (Lib.atoiSat s.data.toList), .iface 113 (.pointer (some ⟨N, 0, none⟩))]) ∧ w.heap.size ≤ N ∧ w'.heap[N]? = some (.cells #[.string ⟨#[65, 116, 111, 105]⟩, .string s, ev] 128 (0, 0)) ∧ Below w.heap.size w w' := Any.strconv_Atoi_range Tryd.laysC172 s hlim h ev w hv hev
def Tryd.lays146_ren : Go.Shelf.Ren := ⟨fun | 146 => 48 | 221 => 57 | 268 => 66 | 138 => 67 | 143 => 68 | 195 => 76 | 197 => 77 | 218 => 78 | 219 => 79 | 260 => 84 | 217 => 85 | 225 => 86 | 224 => 87 | 267 => 88 | 266 => 94 | 314 => 95 | n => n, fun | 9 => 9 | 31 => 46 | 3 => 3 | 4 => 4 | 0 => 0 | 105 => 105 | 21 => 21 | 5 => 5 | 46 => 84 | 119 => 118 | 139 => 121 | 138 => 120 | 146 => 122 | 51 => 99 | n => n, fun | 1 => 1 | 3 => 4 | 4 => 5 | n => n⟩
theorem Tryd.lays146 : Go.Proofs.Lays.n146 Tryd.prog Tryd.lays146_ren := {
  mixed := by kernel_rfl
  f138 := Tryd.func67.trans (congrArg some (by kernel_rfl))
  f143 := Tryd.func68.trans (congrArg some (by kernel_rfl))
  f146 := Tryd.func48.trans (congrArg some (by kernel_rfl))
  f195 := Tryd.func76.trans (congrArg some (by kernel_rfl))
  f197 := Tryd.func77.trans (congrArg some (by kernel_rfl))
  f217 := Tryd.func85.trans (congrArg some (by kernel_rfl))
  f218 := Tryd.func78.trans (congrArg some (by kernel_rfl))
  f219 := Tryd.func79.trans (congrArg some (by kernel_rfl))
  f221 := Tryd.func57.trans (congrArg some (by kernel_rfl))
  f224 := Tryd.func87.trans (congrArg some (by kernel_rfl))
  f225 := Tryd.func86.trans (congrArg some (by kernel_rfl))
  f260 := Tryd.func84.trans (congrArg some (by kernel_rfl))
  f266 := Tryd.func94.trans (congrArg some (by kernel_rfl))
  f267 := Tryd.func88.trans (congrArg some (by kernel_rfl))
  f268 := Tryd.func66.trans (congrArg some (by kernel_rfl))
  f314 := Tryd.func95.trans (congrArg some (by kernel_rfl))
  t0 := Tryd.underlying0
  a0 := Tryd.isAgg0
  z0 := Tryd.sizeOf0
  v0 := Tryd.zeroValue0
  t3 := Tryd.underlying3
  a3 := Tryd.isAgg3
  z3 := Tryd.sizeOf3
  v3 := Tryd.zeroValue3
  t4 := Tryd.underlying4
  a4 := Tryd.isAgg4
  z4 := Tryd.sizeOf4
  v4 := Tryd.zeroValue4
  t5 := Tryd.underlying5
  a5 := Tryd.isAgg5
  z5 := Tryd.sizeOf5
  v5 := Tryd.zeroValue5
  t9 := Tryd.underlying9
  a9 := Tryd.isAgg9
  z9 := Tryd.sizeOf9
  v9 := Tryd.zeroValue9
  t21 := Tryd.underlying21
  a21 := Tryd.isAgg21
  z21 := Tryd.sizeOf21
  v21 := Tryd.zeroValue21
  t31 := Tryd.underlying46
  a31 := Tryd.isAgg46
  z31 := Tryd.sizeOf46
  v31 := Tryd.zeroValue46
  t46 := Tryd.underlying84
  a46 := Tryd.isAgg84
  z46 := Tryd.sizeOf84
  v46 := Tryd.zeroValue84
  t51 := Tryd.underlying99
  a51 := Tryd.isAgg99
  z51 := Tryd.sizeOf99
  v51 := Tryd.zeroValue99
  t105 := Tryd.underlying105
  a105 := Tryd.isAgg105
  z105 := Tryd.sizeOf105
  v105 := Tryd.zeroValue105
  t119 := Tryd.underlying118
  a119 := Tryd.isAgg118
  z119 := Tryd.sizeOf118
  t138 := Tryd.underlying120
  a138 := Tryd.isAgg120
  z138 := Tryd.sizeOf120
  v138 := Tryd.zeroValue120
  t139 := Tryd.underlying121
  a139 := Tryd.isAgg121
  z139 := Tryd.sizeOf121
  v139 := Tryd.zeroValue121
  t146 := Tryd.underlying122
  a146 := Tryd.isAgg122
  z146 := Tryd.sizeOf122
  v146 := Tryd.zeroValue122
  g1 := by kernel_rfl
  g3 := by kernel_rfl
  g4 := by kernel_rfl }
open Go.RowKit Go.Lib in
theorem Tryd.strings_Split (s sep : ByteArray) (m : Int) (w : World) (hs : s.size < 4294967281) (hm : w.cell? ⟨1, 0, none⟩ = some (.int .i64 m)) (h1 : 1 ≤ sep.size) :
    Calls Tryd.prog 48 #[.string s, .string sep] w fun e w' =>
      e = .returned (.slice (some ⟨w.heap.size, 0, none⟩) (Lib.countB s sep + 1) (Lib.countB s sep + 1)) ∧ w' = w.alloc (.cells ((Lib.splitB sep 0 (Lib.countB s sep) s).map Value.string).toArray 9) := Any.strings_Split Tryd.lays146 (by kernel_rfl) s sep m w hs hm h1
def Tryd.laysM146_ren : Go.Shelf.Ren := ⟨fun | 146 => 48 | 221 => 57 | 268 => 66 | 138 => 67 | 143 => 68 | 195 => 76 | 197 => 77 | 218 => 78 | 219 => 79 | 260 => 84 | 217 => 85 | 225 => 86 | 224 => 87 | 267 => 88 | 266 => 94 | 314 => 95 | n => n, fun | 9 => 9 | 31 => 46 | 3 => 3 | 4 => 4 | 0 => 0 | 105 => 105 | 21 => 21 | 5 => 5 | 46 => 84 | 119 => 118 | 139 => 121 | 138 => 120 | 146 => 122 | 51 => 99 | n => n, fun | 1 => 1 | 3 => 4 | 4 => 5 | n => n⟩
theorem Tryd.laysM146 : Go.Proofs.LaysM.n146 Tryd.prog Tryd.laysM146_ren := {
  mixed := by kernel_rfl
  f138 := Tryd.func67.trans (congrArg some (by kernel_rfl))
  f143 := Tryd.func68.trans (congrArg some (by kernel_rfl))
  f146 := Tryd.func48.trans (congrArg some (by kernel_rfl))
  f195 := Tryd.func76.trans (congrArg some (by kernel_rfl))
  f197 := Tryd.func77.trans (congrArg some (by kernel_rfl))
  f217 := Tryd.func85.trans (congrArg some (by kernel_rfl))
  f218 := Tryd.func78.trans (congrArg some (by kernel_rfl))
  f219 := Tryd.func79.trans (congrArg some (by kernel_rfl))
  f221 := Tryd.func57.trans (congrArg some (by kernel_rfl))
  f224 := Tryd.func87.trans (congrArg some (by kernel_rfl))
  f225 := Tryd.func86.trans (congrArg some (by kernel_rfl))
  f260 := Tryd.func84.trans (congrArg some (by kernel_rfl))
  f266 := Tryd.func94.trans (congrArg some (by kernel_rfl))
  f267 := Tryd.func88.trans (congrArg some (by kernel_rfl))
  f268 := Tryd.func66.trans (congrArg some (by kernel_rfl))
  f314 := Tryd.func95.trans (congrArg some (by kernel_rfl))
  t0 := Tryd.underlying0
  a0 := Tryd.isAgg0
  z0 := Tryd.sizeOf0
  v0 := Tryd.zeroValue0
  t3 := Tryd.underlying3
  a3 := Tryd.isAgg3
  z3 := Tryd.sizeOf3
  v3 := Tryd.zeroValue3
  t4 := Tryd.underlying4
  a4 := Tryd.isAgg4
  z4 := Tryd.sizeOf4
  v4 := Tryd.zeroValue4
  t5 := Tryd.underlying5
  a5 := Tryd.isAgg5
  z5 := Tryd.sizeOf5
  v5 := Tryd.zeroValue5
  t9 := Tryd.underlying9
  a9 := Tryd.isAgg9
  z9 := Tryd.sizeOf9
  v9 := Tryd.zeroValue9
  t21 := Tryd.underlying21
  a21 := Tryd.isAgg21
  z21 := Tryd.sizeOf21
  v21 := Tryd.zeroValue21
  t31 := Tryd.underlying46
  a31 := Tryd.isAgg46
  z31 := Tryd.sizeOf46
  v31 := Tryd.zeroValue46
  t46 := Tryd.underlying84
  a46 := Tryd.isAgg84
  z46 := Tryd.sizeOf84
  v46 := Tryd.zeroValue84
  t51 := Tryd.underlying99
  a51 := Tryd.isAgg99
  z51 := Tryd.sizeOf99
  v51 := Tryd.zeroValue99
  t105 := Tryd.underlying105
  a105 := Tryd.isAgg105
  z105 := Tryd.sizeOf105
  v105 := Tryd.zeroValue105
  t119 := Tryd.underlying118
  a119 := Tryd.isAgg118
  z119 := Tryd.sizeOf118
  t138 := Tryd.underlying120
  a138 := Tryd.isAgg120
  z138 := Tryd.sizeOf120
  v138 := Tryd.zeroValue120
  t139 := Tryd.underlying121
  a139 := Tryd.isAgg121
  z139 := Tryd.sizeOf121
  v139 := Tryd.zeroValue121
  t146 := Tryd.underlying122
  a146 := Tryd.isAgg122
  z146 := Tryd.sizeOf122
  v146 := Tryd.zeroValue122
  g1 := by kernel_rfl
  g3 := by kernel_rfl
  g4 := by kernel_rfl
  i0 := by kernel_rfl
  i3 := by kernel_rfl
  i4 := by kernel_rfl
  i5 := by kernel_rfl
  i9 := by kernel_rfl
  i21 := by kernel_rfl
  i31 := by kernel_rfl
  i46 := by kernel_rfl
  i51 := by kernel_rfl
  i105 := by kernel_rfl
  i138 := by kernel_rfl
  i139 := by kernel_rfl
  i146 := by kernel_rfl
  m1 := by kernel_rfl
  s1_3 := fun w h => Go.Proofs.cell_of_shapedOpen_int (zero := #[.int .i64 0]) (t := 3) h (of_decide_eq_true (by kernel_rfl)) (by kernel_rfl) rfl (by kernel_rfl) (by kernel_rfl) Tryd.underlying3
  m3 := by kernel_rfl
  m4 := by kernel_rfl }
end Go.Proofs
end
section
namespace Go.Proofs.YtiapfhlipoomaaaDoor.Given
open Go.RowKit Go.Proofs.YtiapfhlipoomaaaDoorW.PrintWords Go.Proofs.YtiapfhlipoomaaaDoorW.PrintLast Go.Proofs.YtiapfhlipoomaaaDoorW.PrintMore Go.Proofs.YtiapfhlipoomaaaDoor.Print
set_option linter.unusedVariables false
set_option linter.unusedSimpArgs false
def LW (w : World) : Prop := Lib.TabIs Tryd.prog w "internal/strconv.uint64pow10" IntKind.u64 Lib.pow10Tab ∧ (∃ m, w.cell? ⟨1, 0, none⟩ = some (.int .i64 m)) ∧
  (∃ ev, w.cell? ⟨6, 0, none⟩ = some ev ∧ (ev = Value.nilIface ∨ ∃ te pe, ev = Value.iface te pe)) ∧ ∃ ev, w.cell? ⟨7, 0, none⟩ = some ev ∧ (ev = Value.nilIface ∨ ∃ te pe, ev = Value.iface te pe)
theorem LW.below {w w' : World} (h : LW w) (hb : Below w.heap.size w w') : LW w' := by
  obtain ⟨h1, ⟨m, h2⟩, ⟨e, h3, h3'⟩, ⟨e', h4, h4'⟩⟩ := h
  exact ⟨Lib.tabBelow_of_tabIs h1 w' hb, ⟨m, pw_cell_below hb h2⟩, ⟨e, pw_cell_below hb h3, h3'⟩, ⟨e', pw_cell_below hb h4, h4'⟩⟩
theorem below_grow (w : World) (k : Nat) (os : Array Obj) : Below w.heap.size w («Sort».grow (w.drewN k) os) :=
  ⟨rfl, rfl, rfl, by simp [«Sort».grow, World.drewN], fun j hj => by simp only [«Sort».grow]; exact Array.getElem?_append_left (by simpa [World.drewN] using hj)⟩
def itoaB (n : Int) : ByteArray := ⟨(Lib.itoa n).toArray⟩
theorem itoa_any (n : Int) (h : -9223372036854775808 ≤ n ∧ n ≤ 9223372036854775807) (w : World) (hL : LW w) : Calls Tryd.prog 32 #[.int .i64 n] w fun e w' => e = .returned (.string (itoaB n)) ∧ Below w.heap.size w w' := by
  refine (Tryd.strconv_Itoa n h.1 h.2 w hL.1).mono ?_
  rintro e w' ⟨rfl, k, os, rfl⟩
  exact ⟨rfl, below_grow w k os⟩
theorem size_append (a b : ByteArray) : (a ++ b).size = a.size + b.size := ByteArray.size_append
def KeptOther (w w' : World) : Prop := ∀ (g : Nat) (cs : Array Value) (T : TypeId), T ≠ 5 → T ≠ 61 → w.heap[g]? = some (.cells cs T (0, 0)) → w'.heap[g]? = some (.cells cs T (0, 0))
theorem infoB : (Tryd.prog.info? 61).map (·.size) = some 2 := by kernel_rfl
theorem liesB : liesAt Tryd.prog Tryd.prog.depth 61 (2 / Tryd.prog.cellsOf 61) 0 61 1 = true := by kernel_rfl
set_option maxRecDepth 100000 in
set_option maxHeartbeats 1000000 in
theorem check_used (b : Nat) (w : World) (c0 : w.cell? ⟨b, 0, none⟩ = some (.pointer (some ⟨b, 0, none⟩))) :
    Calls Tryd.prog 54 #[.pointer (some ⟨b, 0, none⟩)] w fun e w' => e = .returned (.tuple #[]) ∧ w' = w := by
  obtain ⟨j, hj, _⟩ := Option.map_eq_some_iff.1 infoB
  go_enter Tryd.func54, Tryd.ntmps54
  go_wp2
  rw [Lib.run_neq_ptr_same w _ Tryd.underlying58 hj]
  go_wp2
  go_end0
  exact ⟨rfl, rfl⟩
set_option maxRecDepth 100000 in
set_option maxHeartbeats 1000000 in
theorem check_fresh (b : Nat) (w : World) (c0 : w.cell? ⟨b, 0, none⟩ = some (.pointer none)) (hsh : w.shape? b = some (61, 2)) (hfz : w.frozen? ⟨b, 0, none⟩ = false) :
    Calls Tryd.prog 54 #[.pointer (some ⟨b, 0, none⟩)] w fun e w' => e = .returned (.tuple #[]) ∧ w' = w.setCell ⟨b, 0, none⟩ (.pointer (some ⟨b, 0, none⟩)) := by
  obtain ⟨j, hj, hjs⟩ := Option.map_eq_some_iff.1 infoB
  go_enter Tryd.func54, Tryd.ntmps54
  go_wp2
  rw [Lib.run_to_unsafe w ⟨b, 0, none⟩ Tryd.underlying58 Tryd.underlying92 hj (by rw [hjs]; decide) hsh (Nat.zero_lt_succ 1)]
  simp only [Result.andThen]
  rw [Oper.upon_value]
  go_wp2
  rw [run_callFunc_extern Tryd.func64 (by kernel_rfl) (by kernel_rfl) (by kernel_rfl) (e := Extern.AbiNoEscape.same) (by kernel_rfl)]
  rw [Lib.run_noEscape]
  simp only [Result.andThen]
  rw [Oper.upon_value]
  go_wp2
  rw [Lib.run_from_unsafe w ⟨b, 0, none⟩ Tryd.underlying92 Tryd.underlying58 hj hsh liesB]
  simp only [Result.andThen]
  rw [Oper.upon_value]
  go_wp2
  go_end0
  exact ⟨rfl, rfl⟩
theorem check_any (B b : Nat) (bs : List Value) (w : World) (h : Lib.IsBuilder 61 5 B b bs w) :
    Calls Tryd.prog 54 #[.pointer (some ⟨b, 0, none⟩)] w fun e w' => e = .returned (.tuple #[]) ∧ (Lib.BuilderAt 61 5 B b (.pointer (some ⟨b, 0, none⟩)) bs w' ∧ Below B w w' ∧ KeptOther w w') := by
  rcases h with h | h
  · refine (check_fresh b w h.cell0 h.shape h.frozen0).mono ?_
    rintro e w' ⟨rfl, rfl⟩
    obtain ⟨_, _, hbk, _, _⟩ := id h
    exact ⟨rfl, h.used _, (Below.refl B w).setCell (p := ⟨b, 0, none⟩) h.1 _, fun g cs T _ hT hg => blk_far hg (fun e => blk_ne hg hbk hT e) _⟩
  · refine (check_used b w h.cell0).mono ?_
    rintro e w' ⟨rfl, rfl⟩
    exact ⟨rfl, h, Below.refl _ _, fun _ _ _ _ _ hg => hg⟩
theorem infoU8 : (Tryd.prog.info? 5).map (fun i => (i.zero, i.size, i.bytes)) = some (some (.int .u8 0), 1, 1) := by kernel_rfl
set_option maxRecDepth 100000 in
set_option maxHeartbeats 2000000 in
theorem write_any (B b : Nat) (bs : List Value) (s : ByteArray) (w : World) (h : Lib.IsBuilder 61 5 B b bs w) (hlen : bs.length + s.size ≤ 140737488355328) (hBw : B ≤ w.heap.size) :
    Calls Tryd.prog 44 #[.pointer (some ⟨b, 0, none⟩), .string s] w fun e w' => e = .returned (.tuple #[.int .i64 s.size, .nilIface]) ∧ (Lib.BuilderAt 61 5 B b (.pointer (some ⟨b, 0, none⟩)) (bs ++ Lib.strCells s) w' ∧ Below B w w' ∧ KeptOther w w') := by
  obtain ⟨i0, hi, hz0, hz1, hz2⟩ := info_parts infoU8
  go_enter Tryd.func44, Tryd.ntmps44
  go_wp2_with (go_at_call 54; refine (check_any B b bs _ h).mono ?_)
  rintro e w1 ⟨rfl, h1, hb1, hk1⟩
  obtain ⟨hB, v, hbk, hown, hne⟩ := h1
  have c0 : w1.cell? ⟨b, 0, none⟩ = some (.pointer (some ⟨b, 0, none⟩)) := by rw [Lib.cell_of_heap hbk]; rfl
  have c1 : w1.cell? ⟨b, 1, none⟩ = some v := by rw [Lib.cell_of_heap hbk]; rfl
  go_wp2_with (at_builtin; refine Lib.wpList_append_own_string _ rfl _ _ 59 9 rfl B 5 i0 Tryd.underlying59 Tryd.underlying9 hi hz0 hz1 hz2 _ _ _ rfl hown s rfl ?c3 ?c4 ?c5 ?_)
  case c3 => unfold maxLen; omega
  case c4 => omega
  case c5 => have := hb1.size; omega
  intro v' w2 hown' hgrow _
  have hlt : b < w1.heap.size := by
    rcases Nat.lt_or_ge b w1.heap.size with h' | h'
    · exact h'
    · simp [Array.getElem?_eq_none h'] at hbk
  have hb2 : w2.heap[b]? = some (.cells #[.pointer (some ⟨b, 0, none⟩), v] 61 (0, 0)) := by
    rw [hgrow.block b hlt (fun e => hne e.symm)]
    exact hbk
  have d0 : w2.cell? ⟨b, 0, none⟩ = some (.pointer (some ⟨b, 0, none⟩)) := by rw [Lib.cell_of_heap hb2]; rfl
  have d1 : w2.cell? ⟨b, 1, none⟩ = some v := by rw [Lib.cell_of_heap hb2]; rfl
  have f1 : w2.frozen? ⟨b, 1, none⟩ = false := Lib.frozen_of_heap hb2 1
  obtain ⟨ao, n', cap, rfl⟩ : ∃ ao n' cap, v' = .slice ao n' cap := by
    rcases hown'.2 with ⟨hv, _⟩ | ⟨g, cap, cur, hv, _⟩
    · exact ⟨_, _, _, hv⟩
    · exact ⟨_, _, _, hv⟩
  go_wp2
  go_ret2
  refine ⟨rfl, ?_, ?_, ?_⟩
  · exact Lib.BuilderAt.put (T := 61) (e := 5) hB hb2 (bs' := bs ++ Lib.strCells s) (by simpa [Lib.strCells_length] using hown') (by decide)
  · exact (hb1.grown hgrow (by have := hb1.size; omega) (fun k hk => (hown.lt k hk).1)).setCell (p := ⟨b, 1, none⟩) hB _
  · intro g cs T hT5 hT hg
    have hg1 := hk1 g cs T hT5 hT hg
    exact blk_far (blk_grown hg1 hgrow (fun e => Lib.ownBlock_ne hown hg1 hT5 e.symm)) (fun e => blk_ne hg1 hbk hT e) _
theorem builder_below {B b : Nat} {bs : List Value} {w w' : World} (h : Lib.IsBuilder 61 5 B b bs w) (hb : Below w.heap.size w w') : Lib.IsBuilder 61 5 B b bs w' := by
  have key : ∀ p, Lib.BuilderAt 61 5 B b p bs w → Lib.BuilderAt 61 5 B b p bs w' := by
    rintro p ⟨hB, v, hbk, hown, hne⟩
    refine ⟨hB, v, blk_below hbk hb, ⟨hown.1, ?_⟩, hne⟩
    rcases hown.2 with h0 | ⟨g, cap, cur, hv, hBg, hg, r⟩
    · exact .inl h0
    · exact .inr ⟨g, cap, cur, hv, hBg, blk_below hg hb, r⟩
  rcases h with h | h
  · exact .inl (key _ h)
  · exact .inr (key _ h)
theorem strCells_append (a b : ByteArray) : Lib.strCells (a ++ b) = Lib.strCells a ++ Lib.strCells b := by
  simp [Lib.strCells, Lib.byteCells]
theorem write_on (b : Nat) (acc s : ByteArray) (w : World) (h : Lib.IsBuilder 61 5 b b (Lib.strCells acc) w) (hlen : acc.size + s.size ≤ 140737488355328) :
    Calls Tryd.prog 44 #[.pointer (some ⟨b, 0, none⟩), .string s] w fun e w' => e = .returned (.tuple #[.int .i64 s.size, .nilIface]) ∧ (Lib.IsBuilder 61 5 b b (Lib.strCells (acc ++ s)) w' ∧ Below b w w' ∧ KeptOther w w') := by
  have hBw : b ≤ w.heap.size := by
    rcases h with h | h
    · exact Nat.le_of_lt h.lt
    · exact Nat.le_of_lt h.lt
  refine (write_any b b _ s w h (by rw [Lib.strCells_length]; exact hlen) hBw).mono ?_
  rintro e w' ⟨rfl, h1, h2⟩
  exact ⟨rfl, .inr (by rw [strCells_append]; exact h1), h2⟩
set_option maxRecDepth 100000 in
set_option maxHeartbeats 2000000 in
theorem byte_any (B b : Nat) (bs : List Value) (c : Int) (w : World) (h : Lib.IsBuilder 61 5 B b bs w) (hlen : bs.length + 1 ≤ 140737488355328) (hBw : B ≤ w.heap.size) :
    Calls Tryd.prog 46 #[.pointer (some ⟨b, 0, none⟩), .int .u8 c] w fun e w' => e = .returned .nilIface ∧ (Lib.BuilderAt 61 5 B b (.pointer (some ⟨b, 0, none⟩)) (bs ++ [.int .u8 c]) w' ∧ Below B w w' ∧ KeptOther w w') := by
  obtain ⟨i0, hi, hz0, hz1, hz2⟩ := info_parts infoU8
  go_enter Tryd.func46, Tryd.ntmps46
  go_wp2_with (go_at_call 54; refine (check_any B b bs _ h).mono ?_)
  rintro e w1 ⟨rfl, h1, hb1, hk1⟩
  obtain ⟨hB, v, hbk, hown, hne⟩ := h1
  have c0 : w1.cell? ⟨b, 0, none⟩ = some (.pointer (some ⟨b, 0, none⟩)) := by rw [Lib.cell_of_heap hbk]; rfl
  have c1 : w1.cell? ⟨b, 1, none⟩ = some v := by rw [Lib.cell_of_heap hbk]; rfl
  go_wp2_with (at_builtin; refine wpList_append_own _ rfl _ _ 59 rfl B 5 i0 (.int .u8 0) 1 1 Tryd.underlying59 hi hz0 hz1 hz2 rfl (by decide) _ _ _ rfl (hown.alloc _) ⟨w1.heap.size, 0, none⟩ 1 1 [.int .u8 c] rfl rfl ?c1 ?c2 ?c3 ?c4 ?c5 ?_)
  case c1 =>
    intro j u hj
    match j, hj with
    | 0, hj => simp at hj; subst hj; simp [Addr.add]
  case c2 => intro u hu; simp at hu; subst hu; rfl
  case c3 => unfold maxLen; omega
  case c4 => omega
  case c5 => have := hb1.size; simp; omega
  intro v' w2 hown' hgrow _
  have hlt : b < w1.heap.size := by
    rcases Nat.lt_or_ge b w1.heap.size with h' | h'
    · exact h'
    · simp [Array.getElem?_eq_none h'] at hbk
  have hbk' := blk_below hbk (below_alloc (Below.refl _ w1) (.cells #[.int .u8 c] 5))
  have hb2 : w2.heap[b]? = some (.cells #[.pointer (some ⟨b, 0, none⟩), v] 61 (0, 0)) := by
    rw [hgrow.block b (by simp; omega) (fun e => hne e.symm)]
    exact hbk'
  have d0 : w2.cell? ⟨b, 0, none⟩ = some (.pointer (some ⟨b, 0, none⟩)) := by rw [Lib.cell_of_heap hb2]; rfl
  have d1 : w2.cell? ⟨b, 1, none⟩ = some v := by rw [Lib.cell_of_heap hb2]; rfl
  have f1 : w2.frozen? ⟨b, 1, none⟩ = false := Lib.frozen_of_heap hb2 1
  obtain ⟨ao, n', cap, rfl⟩ : ∃ ao n' cap, v' = .slice ao n' cap := by
    rcases hown'.2 with ⟨hv, _⟩ | ⟨g, cap, cur, hv, _⟩
    · exact ⟨_, _, _, hv⟩
    · exact ⟨_, _, _, hv⟩
  go_wp2
  go_ret
  refine ⟨rfl, ?_, ?_, ?_⟩
  · exact Lib.BuilderAt.put (T := 61) (e := 5) hB hb2 (bs' := bs ++ [.int .u8 c]) (by simpa using hown') (by decide)
  · exact ((hb1.alloc (by have := hb1.size; omega) _).grown hgrow (by have := hb1.size; simp; omega) (fun k hk => (hown.lt k hk).1)).setCell (p := ⟨b, 1, none⟩) hB _
  · intro g cs T hT5 hT hg
    have hg1 := hk1 g cs T hT5 hT hg
    have hg2 := blk_below hg1 (below_alloc (Below.refl _ w1) (.cells #[.int .u8 c] 5))
    exact blk_far (blk_grown hg2 hgrow (fun e => Lib.ownBlock_ne hown hg1 hT5 e.symm)) (fun e => blk_ne hg1 hbk hT e) _
def space : ByteArray := ⟨#[32]⟩
def wordsL (s : ByteArray) : List ByteArray := Lib.splitB space 0 (Lib.countB s space) s
def numOf (t : ByteArray) : Option Int := match Lib.atoiAll t.data.toList with
  | .ok v => if (itoaB v).toList = t.toList then some v else none
  | _ => none
def numsIn : List ByteArray → Option (List Int)
  | [] => some []
  | t :: r => match numOf t, numsIn r with
    | some v, some l => some (v :: l)
    | _, _ => none
theorem split_any (s : ByteArray) (n : Nat) (hn : Lib.countB s space = n) (w : World) (hs : s.size < 4294967281) (hL : LW w) :
    Calls Tryd.prog 48 #[.string s, .string ⟨#[32]⟩] w fun e w' => e = .returned (.slice (some ⟨w.heap.size, 0, none⟩) (n + 1 : Nat) (n + 1)) ∧ w'.heap[w.heap.size]? = some (.cells ((wordsL s).map Value.string).toArray 9 (0, 0)) ∧ Below w.heap.size w w' := by
  obtain ⟨m, hm⟩ := hL.2.1
  refine (Tryd.strings_Split s space m w hs hm (by decide)).mono ?_
  rintro e w' ⟨rfl, rfl⟩
  exact ⟨by rw [hn], blk_new _ _, below_alloc (Below.refl _ _) _⟩
theorem words_length (s : ByteArray) (n : Nat) (hn : Lib.countB s space = n) : (wordsL s).length = n + 1 := by
  rw [wordsL, hn]
  exact Lib.splitB_all space (by decide) 0 n s hn
theorem atoi_good (t : ByteArray) (v : Int) (h : numOf t = some v) (w : World) (hsz : t.size ≤ 281474976710656) :
    Calls Tryd.prog 69 #[.string t] w fun e w' => e = .returned (.tuple #[.int .i64 v, .nilIface]) ∧ Below w.heap.size w w' := by
  unfold numOf at h
  split at h
  · rename_i v' hv
    split at h
    · injection h with h
      subst h
      refine (Tryd.strconv_Atoi_ok t (by omega) v' hv w).mono ?_
      rintro e w' ⟨rfl, h | ⟨u, h⟩⟩
      · exact ⟨rfl, h ▸ Below.refl _ _⟩
      · exact ⟨rfl, h ▸ bytes_below (Below.refl _ _) (Nat.le_refl _) 5 u⟩
    · cases h
  · cases h
theorem numOf_some {t : ByteArray} {v : Int} (h : numOf t = some v) : (-9223372036854775808 ≤ v ∧ v ≤ 9223372036854775807) ∧ (itoaB v).toList = t.toList := by
  unfold numOf at h
  split at h
  · rename_i v' hv
    split at h
    · rename_i hq
      injection h with h
      subst h
      exact ⟨Lib.atoiAll_bounds hv, hq⟩
    · cases h
  · cases h
theorem splitB_size (sep : ByteArray) : ∀ (k : Nat) (s t : ByteArray), t ∈ Lib.splitB sep 0 k s → t.size ≤ s.size
  | 0, s, t, h => by
    simp only [Lib.splitB, List.mem_singleton] at h
    exact h ▸ Nat.le_refl _
  | k + 1, s, t, h => by
    rw [Lib.splitB] at h
    split at h
    · simp only [List.mem_singleton] at h
      exact h ▸ Nat.le_refl _
    · rcases List.mem_cons.1 h with rfl | h
      · rw [ByteArray.size_extract]; omega
      · refine Nat.le_trans (splitB_size sep k _ t h) ?_
        rw [ByteArray.size_extract]; omega
theorem word_size (s t : ByteArray) (h : t ∈ wordsL s) : t.size ≤ s.size := splitB_size _ _ s t h
theorem count_le (s : ByteArray) : Lib.countB s space ≤ s.size := Lib.countB_le space (by decide) s.size s (Nat.le_refl _)
theorem atoi_bad (t : ByteArray) (h : numOf t = none) (w : World) (hL : LW w) (hsz : t.size ≤ 281474976710656) :
    Calls Tryd.prog 69 #[.string t] w fun e w' => ∃ (v : Int) (er : Value), e = .returned (.tuple #[.int .i64 v, er]) ∧ ((∃ a, er = .iface 113 (.pointer (some a))) ∨ er = .nilIface ∧ (-9223372036854775808 ≤ v ∧ v ≤ 9223372036854775807) ∧ ((itoaB v).toList == t.toList) = false) ∧ Below w.heap.size w w' := by
  unfold numOf at h
  split at h
  · rename_i v hv
    split at h
    · cases h
    · rename_i hq
      refine (Tryd.strconv_Atoi_ok t (by omega) v hv w).mono ?_
      rintro e w' ⟨rfl, h | ⟨u, h⟩⟩
      · exact ⟨v, _, rfl, .inr ⟨rfl, Lib.atoiAll_bounds hv, by simpa using hq⟩, h ▸ Below.refl _ _⟩
      · exact ⟨v, _, rfl, .inr ⟨rfl, Lib.atoiAll_bounds hv, by simpa using hq⟩, h ▸ bytes_below (Below.refl _ _) (Nat.le_refl _) 5 u⟩
  · rename_i hne
    cases hq : Lib.atoiAll t.data.toList
    · exact absurd hq (hne _)
    · obtain ⟨ev, hv, hev⟩ := hL.2.2.1
      refine (Tryd.strconv_Atoi_syntax t hsz hq ev w hv hev).mono ?_
      rintro e w' ⟨N, rfl, _, _, hb⟩
      exact ⟨_, _, rfl, .inl ⟨_, rfl⟩, hb⟩
    · obtain ⟨ev, hv, hev⟩ := hL.2.2.2
      refine (Tryd.strconv_Atoi_range t hsz hq ev w hv hev).mono ?_
      rintro e w' ⟨N, rfl, _, _, hb⟩
      exact ⟨_, _, rfl, .inl ⟨_, rfl⟩, hb⟩
end Go.Proofs.YtiapfhlipoomaaaDoor.Given
end
section
namespace Go.Proofs.YtiapfhlipoomaaaDoor.Given
open Go.RowKit Go.Proofs.YtiapfhlipoomaaaDoorW.PrintWords Go.Proofs.YtiapfhlipoomaaaDoorW.PrintLast Go.Proofs.YtiapfhlipoomaaaDoorW.PrintMore Go.Proofs.YtiapfhlipoomaaaDoor.Print
set_option linter.unusedVariables false
set_option linter.unusedSimpArgs false
def wordB : Nat → ByteArray
  | 1 => ⟨#[98, 111, 114, 110]⟩
  | 2 => ⟨#[109, 101, 101, 116]⟩
  | 3 => ⟨#[105, 110]⟩
  | 4 => ⟨#[111, 117, 116]⟩
  | 5 => ⟨#[101, 120, 105, 116]⟩
  | 6 => ⟨#[116, 114, 97, 112]⟩
  | 7 => ⟨#[115, 107, 105, 112]⟩
  | 8 => ⟨#[105, 100, 108, 101]⟩
  | 9 => ⟨#[112, 114, 111, 98, 101]⟩
  | 10 => ⟨#[114, 101, 97, 112]⟩
  | 11 => ⟨#[115, 112, 101, 110, 116]⟩
  | _ => ⟨#[]⟩
def foK : Nat → List Nat
  | 1 => [1, 3]
  | 2 => [1, 2, 3, 4, 5]
  | 3 => [3, 4]
  | 4 => [1, 2]
  | 5 => [1]
  | 6 => [1]
  | 7 => []
  | 8 => []
  | 9 => []
  | 10 => [1]
  | 11 => [1]
  | _ => []
def clsK : Nat → Nat
  | 3 => 1
  | 4 => 1
  | 6 => 2
  | 11 => 2
  | _ => 0
def liK : Nat → Bool
  | 9 => true
  | _ => false
def wsK : Nat → List ByteArray
  | 6 => [⟨#[]⟩, ⟨#[100, 105, 118, 105, 100, 101]⟩, ⟨#[105, 110, 100, 101, 120]⟩, ⟨#[102, 105, 108, 108]⟩, ⟨#[110, 105, 108]⟩, ⟨#[119, 114, 111, 110, 103]⟩]
  | 11 => [⟨#[]⟩, ⟨#[112, 114, 111, 99, 115]⟩, ⟨#[108, 105, 118, 101]⟩, ⟨#[99, 104, 97, 110, 115]⟩, ⟨#[116, 105, 99, 107, 115]⟩, ⟨#[99, 101, 108, 108, 115]⟩, ⟨#[100, 101, 112, 116, 104]⟩]
  | _ => []
def getK (x : S24) : Nat → Int
  | 1 => x.f1
  | 2 => x.f2
  | 3 => x.f3
  | 4 => x.f4
  | 5 => x.f5
  | 6 => x.f6
  | _ => x.f0
abbrev evC (x : S24) (lv : Value) : Array Value := #[.int .i64 x.f0, .int .i64 x.f1, .int .i64 x.f2, .int .i64 x.f3, .int .i64 x.f4, .int .i64 x.f5, .int .i64 x.f6, lv]
def FieldsAt (w : World) (g : Nat) (v : Value) (fo : List Nat) : Prop :=
  ∃ A, v = .slice A fo.length fo.length ∧ ∀ (j o : Nat), fo[j]? = some o → ∃ ad, A = some ad ∧ ad.block ≠ g ∧ w.cell? (ad.add j) = some (.pointer (some ⟨g, o, none⟩))
theorem FieldsAt.below {w w' : World} {g : Nat} {v : Value} {fo : List Nat} (h : FieldsAt w g v fo) (hb : Below w.heap.size w w') : FieldsAt w' g v fo := by
  obtain ⟨A, hv, hc⟩ := h
  refine ⟨A, hv, fun j o hj => ?_⟩
  obtain ⟨ad, ha, hn, hx⟩ := hc j o hj
  exact ⟨ad, ha, hn, pw_cell_below hb hx⟩
theorem fields_nil (w : World) (g : Nat) : FieldsAt w g (.slice none 0 0) [] := ⟨none, rfl, fun j o h => by simp at h⟩
theorem fields_blk {w : World} {g b : Nat} (fo : List Nat) (hn : b ≠ g) (h : w.heap[b]? = some (.cells (fo.map fun o => Value.pointer (some ⟨g, o, none⟩)).toArray 45 (0, 0))) : FieldsAt w g (.slice (some ⟨b, 0, none⟩) fo.length fo.length) fo := by
  refine ⟨_, rfl, fun j o hj => ⟨_, rfl, hn, ?_⟩⟩
  have : (⟨b, 0, none⟩ : Addr).add j = ⟨b, j, none⟩ := by simp [Addr.add]; exact Eq.symm
  rw [this, blk_cell h j]
  simp [hj]
theorem at1_2 (w : World) (a b : Obj) : ((w.alloc a).alloc b).heap[w.heap.size + 1]? = some b := by
  have h := heap_alloc_new (w.alloc a) b
  rwa [show (w.alloc a).heap.size = w.heap.size + 1 from Array.size_push ..] at h
theorem at1_3 (w : World) (a b c : Obj) : (((w.alloc a).alloc b).alloc c).heap[w.heap.size + 1]? = some b := blk_below (at1_2 w a b) (below_alloc (Below.refl _ _) c)
theorem at2_3 (w : World) (a b c : Obj) : (((w.alloc a).alloc b).alloc c).heap[w.heap.size + 2]? = some c := by
  have h := heap_alloc_new ((w.alloc a).alloc b) c
  rwa [show ((w.alloc a).alloc b).heap.size = w.heap.size + 2 by rw [show ((w.alloc a).alloc b).heap = (w.heap.push a).push b from rfl, Array.size_push, Array.size_push]] at h
theorem bel1 (w : World) (a : Obj) : Below w.heap.size w (w.alloc a) := below_alloc (Below.refl _ _) a
theorem bel2 (w : World) (a b : Obj) : Below w.heap.size w ((w.alloc a).alloc b) := below_alloc (bel1 w a) b
theorem bel3 (w : World) (a b c : Obj) : Below w.heap.size w (((w.alloc a).alloc b).alloc c) := below_alloc (bel2 w a b) c
theorem form_c0 (k : Nat) (h1 : 1 ≤ k) (h2 : k ≤ 11) (hc : clsK k = 0) (g : Nat) (x : S24) (lv : Value) (w : World) (hk : x.f0 = k) (hb : w.heap[g]? = some (.cells (evC x lv) 24 (0, 0))) :
    Calls Tryd.prog 23 #[.pointer (some ⟨g, 0, none⟩)] w fun e w' => ∃ vF, e = .returned (.tuple #[.agg #[.string (wordB k), vF, .pointer none, .slice none 0 0, .pointer none, .bool (liK k)], .bool true]) ∧ FieldsAt w' g vF (foK k) ∧ Below w.heap.size w w' := by
  obtain ⟨x0, x1, x2, x3, x4, x5, x6, l⟩ := x
  simp only at hk
  subst hk
  match k, h1, h2, hc, hb with
  | 1, _, _, _, hb =>
    refine (form_1 g (.int .i64 1) (.int .i64 x1) (.int .i64 x2) (.int .i64 x3) (.int .i64 x4) (.int .i64 x5) (.int .i64 x6) lv w rfl hb).mono ?_
    rintro e w' ⟨rfl, rfl⟩
    exact ⟨_, rfl, fields_blk (foK 1) (by have := blk_lt hb; omega) (at1_2 _ _ _), below_drew (bel2 _ _ _)⟩
  | 2, _, _, _, hb =>
    refine (form_2 g (.int .i64 2) (.int .i64 x1) (.int .i64 x2) (.int .i64 x3) (.int .i64 x4) (.int .i64 x5) (.int .i64 x6) lv w rfl hb).mono ?_
    rintro e w' ⟨rfl, rfl⟩
    exact ⟨_, rfl, fields_blk (foK 2) (by have := blk_lt hb; omega) (at1_2 _ _ _), below_drew (bel2 _ _ _)⟩
  | 3, _, _, hc, _ => exact absurd hc (by decide)
  | 4, _, _, hc, _ => exact absurd hc (by decide)
  | 5, _, _, _, hb =>
    refine (form_5 g (.int .i64 5) (.int .i64 x1) (.int .i64 x2) (.int .i64 x3) (.int .i64 x4) (.int .i64 x5) (.int .i64 x6) lv w rfl hb).mono ?_
    rintro e w' ⟨rfl, rfl⟩
    exact ⟨_, rfl, fields_blk (foK 5) (by have := blk_lt hb; omega) (at1_2 _ _ _), bel2 _ _ _⟩
  | 6, _, _, hc, _ => exact absurd hc (by decide)
  | 7, _, _, _, hb =>
    refine (form_7 g (.int .i64 7) (.int .i64 x1) (.int .i64 x2) (.int .i64 x3) (.int .i64 x4) (.int .i64 x5) (.int .i64 x6) lv w rfl hb).mono ?_
    rintro e w' ⟨rfl, rfl⟩
    exact ⟨_, rfl, fields_nil _ _, bel1 _ _⟩
  | 8, _, _, _, hb =>
    refine (form_8 g (.int .i64 8) (.int .i64 x1) (.int .i64 x2) (.int .i64 x3) (.int .i64 x4) (.int .i64 x5) (.int .i64 x6) lv w rfl hb).mono ?_
    rintro e w' ⟨rfl, rfl⟩
    exact ⟨_, rfl, fields_nil _ _, bel1 _ _⟩
  | 9, _, _, _, hb =>
    refine (form_9 g (.int .i64 9) (.int .i64 x1) (.int .i64 x2) (.int .i64 x3) (.int .i64 x4) (.int .i64 x5) (.int .i64 x6) lv w rfl hb).mono ?_
    rintro e w' ⟨rfl, rfl⟩
    exact ⟨_, rfl, fields_nil _ _, bel1 _ _⟩
  | 10, _, _, _, hb =>
    refine (form_10 g (.int .i64 10) (.int .i64 x1) (.int .i64 x2) (.int .i64 x3) (.int .i64 x4) (.int .i64 x5) (.int .i64 x6) lv w rfl hb).mono ?_
    rintro e w' ⟨rfl, rfl⟩
    exact ⟨_, rfl, fields_blk (foK 10) (by have := blk_lt hb; omega) (at1_2 _ _ _), bel2 _ _ _⟩
  | 11, _, _, hc, _ => exact absurd hc (by decide)
  | k + 12, _, h, _, _ => exact absurd h (by omega)
theorem form_c1 (k : Nat) (h1 : 1 ≤ k) (h2 : k ≤ 11) (hc : clsK k = 1) (g : Nat) (x : S24) (lv : Value) (w : World) (hk : x.f0 = k) (hb : w.heap[g]? = some (.cells (evC x lv) 24 (0, 0))) :
    Calls Tryd.prog 23 #[.pointer (some ⟨g, 0, none⟩)] w fun e w' => ∃ vF, e = .returned (.tuple #[.agg #[.string (wordB k), vF, .pointer (some ⟨g, 6, none⟩), .slice none 0 0, .pointer none, .bool false], .bool true]) ∧ FieldsAt w' g vF (foK k) ∧ Below w.heap.size w w' := by
  obtain ⟨x0, x1, x2, x3, x4, x5, x6, l⟩ := x
  simp only at hk
  subst hk
  match k, h1, h2, hc, hb with
  | 1, _, _, hc, _ => exact absurd hc (by decide)
  | 2, _, _, hc, _ => exact absurd hc (by decide)
  | 3, _, _, _, hb =>
    refine (form_3 g (.int .i64 3) (.int .i64 x1) (.int .i64 x2) (.int .i64 x3) (.int .i64 x4) (.int .i64 x5) (.int .i64 x6) lv w rfl hb).mono ?_
    rintro e w' ⟨rfl, rfl⟩
    exact ⟨_, rfl, fields_blk (foK 3) (by have := blk_lt hb; omega) (at1_2 _ _ _), below_drew (bel2 _ _ _)⟩
  | 4, _, _, _, hb =>
    refine (form_4 g (.int .i64 4) (.int .i64 x1) (.int .i64 x2) (.int .i64 x3) (.int .i64 x4) (.int .i64 x5) (.int .i64 x6) lv w rfl hb).mono ?_
    rintro e w' ⟨rfl, rfl⟩
    exact ⟨_, rfl, fields_blk (foK 4) (by have := blk_lt hb; omega) (at1_2 _ _ _), below_drew (bel2 _ _ _)⟩
  | 5, _, _, hc, _ => exact absurd hc (by decide)
  | 6, _, _, hc, _ => exact absurd hc (by decide)
  | 7, _, _, hc, _ => exact absurd hc (by decide)
  | 8, _, _, hc, _ => exact absurd hc (by decide)
  | 9, _, _, hc, _ => exact absurd hc (by decide)
  | 10, _, _, hc, _ => exact absurd hc (by decide)
  | 11, _, _, hc, _ => exact absurd hc (by decide)
  | k + 12, _, h, _, _ => exact absurd h (by omega)
theorem form_c2 (k : Nat) (h1 : 1 ≤ k) (h2 : k ≤ 11) (hc : clsK k = 2) (g : Nat) (x : S24) (lv : Value) (w : World) (hk : x.f0 = k) (hb : w.heap[g]? = some (.cells (evC x lv) 24 (0, 0))) :
    Calls Tryd.prog 23 #[.pointer (some ⟨g, 0, none⟩)] w fun e w' => ∃ vF b, e = .returned (.tuple #[.agg #[.string (wordB k), vF, .pointer none, .slice (some ⟨b, 0, none⟩) (wsK k).length (wsK k).length, .pointer (some ⟨g, 6, none⟩), .bool false], .bool true]) ∧ FieldsAt w' g vF (foK k) ∧ w'.heap[b]? = some (.cells ((wsK k).map Value.string).toArray 9 (0, 0)) ∧ Below w.heap.size w w' := by
  obtain ⟨x0, x1, x2, x3, x4, x5, x6, l⟩ := x
  simp only at hk
  subst hk
  match k, h1, h2, hc, hb with
  | 1, _, _, hc, _ => exact absurd hc (by decide)
  | 2, _, _, hc, _ => exact absurd hc (by decide)
  | 3, _, _, hc, _ => exact absurd hc (by decide)
  | 4, _, _, hc, _ => exact absurd hc (by decide)
  | 5, _, _, hc, _ => exact absurd hc (by decide)
  | 6, _, _, _, hb =>
    refine (form_6 g (.int .i64 6) (.int .i64 x1) (.int .i64 x2) (.int .i64 x3) (.int .i64 x4) (.int .i64 x5) (.int .i64 x6) lv w rfl hb).mono ?_
    rintro e w' (⟨rfl, rfl⟩ | ⟨rfl, rfl⟩)
    · exact ⟨_, w.heap.size + 2, rfl, fields_blk (foK 6) (by have := blk_lt hb; omega) (at1_3 _ _ _ _), at2_3 _ _ _ _, below_drew (bel3 _ _ _ _)⟩
    · exact ⟨_, w.heap.size + 1, rfl, fields_blk (foK 6) (by have := blk_lt hb; omega) (at2_3 _ _ _ _), at1_3 _ _ _ _, below_drew (bel3 _ _ _ _)⟩
  | 7, _, _, hc, _ => exact absurd hc (by decide)
  | 8, _, _, hc, _ => exact absurd hc (by decide)
  | 9, _, _, hc, _ => exact absurd hc (by decide)
  | 10, _, _, hc, _ => exact absurd hc (by decide)
  | 11, _, _, _, hb =>
    refine (form_11 g (.int .i64 11) (.int .i64 x1) (.int .i64 x2) (.int .i64 x3) (.int .i64 x4) (.int .i64 x5) (.int .i64 x6) lv w rfl hb).mono ?_
    rintro e w' (⟨rfl, rfl⟩ | ⟨rfl, rfl⟩)
    · exact ⟨_, w.heap.size + 2, rfl, fields_blk (foK 11) (by have := blk_lt hb; omega) (at1_3 _ _ _ _), at2_3 _ _ _ _, below_drew (bel3 _ _ _ _)⟩
    · exact ⟨_, w.heap.size + 1, rfl, fields_blk (foK 11) (by have := blk_lt hb; omega) (at2_3 _ _ _ _), at1_3 _ _ _ _, below_drew (bel3 _ _ _ _)⟩
  | k + 12, _, h, _, _ => exact absurd h (by omega)
end Go.Proofs.YtiapfhlipoomaaaDoor.Given
end
section
namespace Go.Proofs.YtiapfhlipoomaaaDoor.Given
open Go.RowKit Go.Proofs.YtiapfhlipoomaaaDoorW.PrintWords Go.Proofs.YtiapfhlipoomaaaDoorW.PrintLast Go.Proofs.YtiapfhlipoomaaaDoorW.PrintMore Go.Proofs.YtiapfhlipoomaaaDoor.Print
set_option linter.unusedVariables false
set_option linter.unusedSimpArgs false
theorem ws_len2 (k : Nat) : (wsK k).length ≤ 7 := by
  unfold wsK
  split <;> decide
theorem fo_len (k : Nat) : (foK k).length ≤ 5 := by
  unfold foK
  split <;> decide
theorem fo_le (k o : Nat) (h : o ∈ foK k) : 1 ≤ o ∧ o ≤ 6 := by
  unfold foK at h
  split at h <;> simp at h <;> omega
theorem ws_len (k : Nat) : (wsK k).length ≤ 7 := by
  unfold wsK
  split <;> decide
theorem ev_get (x : S24) (v : Value) (o : Nat) (h1 : 1 ≤ o) (h2 : o ≤ 6) : (evC x v)[o]? = some (.int .i64 (getK x o)) := by
  match o, h1, h2 with
  | 1, _, _ => rfl
  | 2, _, _ => rfl
  | 3, _, _ => rfl
  | 4, _, _ => rfl
  | 5, _, _ => rfl
  | 6, _, _ => rfl
def setK (x : S24) (n : Int) : Nat → S24
  | 1 => ⟨x.f0, n, x.f2, x.f3, x.f4, x.f5, x.f6, x.f7⟩
  | 2 => ⟨x.f0, x.f1, n, x.f3, x.f4, x.f5, x.f6, x.f7⟩
  | 3 => ⟨x.f0, x.f1, x.f2, n, x.f4, x.f5, x.f6, x.f7⟩
  | 4 => ⟨x.f0, x.f1, x.f2, x.f3, n, x.f5, x.f6, x.f7⟩
  | 5 => ⟨x.f0, x.f1, x.f2, x.f3, x.f4, n, x.f6, x.f7⟩
  | 6 => ⟨x.f0, x.f1, x.f2, x.f3, x.f4, x.f5, n, x.f7⟩
  | _ => x
def atK (k : Nat) : List Nat := foK k ++ (if clsK k = 1 then [6] else [])
theorem setK_f7 (x : S24) (n : Int) (o : Nat) : (setK x n o).f7 = x.f7 := by
  unfold setK
  split <;> rfl
theorem setK_f0 (x : S24) (n : Int) (o : Nat) : (setK x n o).f0 = x.f0 := by
  unfold setK
  split <;> rfl
theorem setK_cells (x : S24) (v : Value) (n : Int) (o : Nat) (h1 : 1 ≤ o) (h2 : o ≤ 6) : (evC x v).setIfInBounds o (.int .i64 n) = evC (setK x n o) v := by
  match o, h1, h2 with
  | 1, _, _ => rfl
  | 2, _, _ => rfl
  | 3, _, _ => rfl
  | 4, _, _ => rfl
  | 5, _, _ => rfl
  | 6, _, _ => rfl
theorem add_block (ad : Addr) (j : Nat) : (ad.add j).block = ad.block := by
  unfold Addr.add
  split <;> rfl
structure Fr (base g : Nat) (w w' : World) : Prop where
  os : w'.os = w.os
  tape : w'.tape = w.tape
  output : w'.output = w.output
  size : w.heap.size ≤ w'.heap.size
  block : ∀ k, k < base → k ≠ g → w'.heap[k]? = w.heap[k]?
theorem Fr.below {base g N : Nat} {w w' : World} (h : Fr base g w w') (hb : N ≤ base) (hg : N ≤ g) : Below N w w' := ⟨h.os, h.tape, h.output, h.size, fun k hk => h.block k (by omega) (by omega)⟩
theorem Fr.of_below {base g : Nat} {w w' : World} (h : Below base w w') : Fr base g w w' := ⟨h.os, h.tape, h.output, h.size, fun k hk _ => h.block k hk⟩
theorem Fr.trans {base g : Nat} {w w1 w2 : World} (h : Fr base g w w1) (k : Fr base g w1 w2) : Fr base g w w2 := ⟨k.os.trans h.os, k.tape.trans h.tape, k.output.trans h.output, Nat.le_trans h.size k.size, fun j hj hg => (k.block j hj hg).trans (h.block j hj hg)⟩
theorem Fr.mono {base base' g : Nat} {w w1 : World} (h : Fr base g w w1) (hb : base' ≤ base) : Fr base' g w w1 := ⟨h.os, h.tape, h.output, h.size, fun j hj hg => h.block j (by omega) hg⟩
theorem fr_set {base g : Nat} {w w1 : World} (h : Fr base g w w1) (j : Nat) (v : Value) : Fr base g w (w1.setCell ⟨g, j, none⟩ v) :=
  ⟨h.os, h.tape, h.output, by simpa [World.setCell] using h.size, fun k hk hkg => (Below.heap_setCell w1 ⟨g, j, none⟩ v k hkg).trans (h.block k hk hkg)⟩
theorem Fr.cell {base g : Nat} {w w1 : World} (h : Fr base g w w1) {a : Addr} {v : Value} (hc : w.cell? a = some v) (hb : w.heap.size ≤ base) (hg : a.block ≠ g) : w1.cell? a = some v :=
  (World.cell?_of_block (w := w) (h.block a.block (Nat.lt_of_lt_of_le (World.block_lt_of_cell? w a hc) hb) hg)).trans hc
theorem Fr.blk {base g b : Nat} {w w1 : World} {o : Obj} (h : Fr base g w w1) (hc : w.heap[b]? = some o) (hb : w.heap.size ≤ base) (hg : b ≠ g) : w1.heap[b]? = some o := (h.block b (Nat.lt_of_lt_of_le (blk_lt hc) hb) hg).trans hc
end Go.Proofs.YtiapfhlipoomaaaDoor.Given
end
section
namespace Go.Proofs.YtiapfhlipoomaaaDoor.Given
open Go.RowKit Go.Proofs.YtiapfhlipoomaaaDoorW.PrintWords Go.Proofs.YtiapfhlipoomaaaDoorW.PrintLast Go.Proofs.YtiapfhlipoomaaaDoorW.PrintMore Go.Proofs.YtiapfhlipoomaaaDoor.Print
set_option linter.unusedVariables false
set_option linter.unusedSimpArgs false
def onlyA (x : S24) (fo : List Nat) : S24 := fo.foldl (fun y o => setK y (getK x o) o) ⟨x.f0, 0, 0, 0, 0, 0, 0, []⟩
theorem ev_noptr {w : World} {g n c : Nat} {x : S24} {A : Option Addr} {a : Addr} {v : Option Addr} (hg : w.heap[g]? = some (.cells (evC x (.slice A n c)) 24 (0, 0))) (hc : w.cell? a = some (.pointer v)) : a.block ≠ g := by
  rintro rfl
  unfold World.cell? at hc
  rw [hg] at hc
  simp only at hc
  split at hc
  · cases hc
  · generalize a.off = o at hc
    rcases o with _ | _ | _ | _ | _ | _ | _ | _ | o <;> simp [evC] at hc
theorem onlyA_snoc (x : S24) (fo : List Nat) (o : Nat) : onlyA x (fo ++ [o]) = setK (onlyA x fo) (getK x o) o := by simp [onlyA]
def onlyK (k : Nat) (x : S24) : S24 := ⟨(onlyA x (atK k)).f0, (onlyA x (atK k)).f1, (onlyA x (atK k)).f2, (onlyA x (atK k)).f3, (onlyA x (atK k)).f4, (onlyA x (atK k)).f5, (onlyA x (atK k)).f6, if liK k then x.f7 else []⟩
theorem ok_neg (k o : Nat) (x : S24) (ho : o ∈ foK k) (hn : getK x o < 0) : checkK k x = 180 := by
  refine if_neg (fun h => ?_)
  unfold okK at h
  split at h <;> simp only [foK, List.mem_cons, List.not_mem_nil, or_false] at ho <;> (try simp only [Bool.and_eq_true, decide_eq_true_eq] at h) <;> (try (rcases ho with rfl | rfl | rfl | rfl | rfl)) <;> (try (rcases ho with rfl | rfl)) <;> (try subst ho) <;> simp only [getK] at hn <;> first | omega | cases h | cases ho
theorem ok_same (k : Nat) (hc : clsK k < 2) (h1 : 1 ≤ k) (h2 : k ≤ 11) (x : S24) (hk : x.f0 = k) (hp : ∀ o ∈ foK k, 0 ≤ getK x o) : okK k x = true ↔ sameP x (onlyK k x) ∧ risesB x.f7 = true := by
  match k, h1, h2, hc with
  | 1, _, _, _ =>
    simp only [foK, List.mem_cons, List.not_mem_nil, or_false, forall_eq_or_imp, forall_eq, getK, false_imp_iff, implies_true] at hp
    simp only [okK, onlyK, onlyA, atK, foK, clsK, liK, sameP, setK, getK, List.foldl_cons, List.foldl_nil, List.cons_append, List.nil_append, Bool.and_eq_true, decide_eq_true_eq, if_true, reduceCtorEq, if_false, true_and, List.append_nil, Nat.reduceEqDiff]
    constructor
    · intro h
      simp_all [risesB, risesFrom]
    · intro h
      simp_all [risesB, risesFrom]
  | 2, _, _, _ =>
    simp only [foK, List.mem_cons, List.not_mem_nil, or_false, forall_eq_or_imp, forall_eq, getK, false_imp_iff, implies_true] at hp
    simp only [okK, onlyK, onlyA, atK, foK, clsK, liK, sameP, setK, getK, List.foldl_cons, List.foldl_nil, List.cons_append, List.nil_append, Bool.and_eq_true, decide_eq_true_eq, if_true, reduceCtorEq, if_false, true_and, List.append_nil, Nat.reduceEqDiff]
    constructor
    · intro h
      simp_all [risesB, risesFrom]
    · intro h
      simp_all [risesB, risesFrom]
  | 3, _, _, _ =>
    simp only [foK, List.mem_cons, List.not_mem_nil, or_false, forall_eq_or_imp, forall_eq, getK, false_imp_iff, implies_true] at hp
    simp only [okK, onlyK, onlyA, atK, foK, clsK, liK, sameP, setK, getK, List.foldl_cons, List.foldl_nil, List.cons_append, List.nil_append, Bool.and_eq_true, decide_eq_true_eq, if_true, reduceCtorEq, if_false, true_and, List.append_nil, Nat.reduceEqDiff]
    constructor
    · intro h
      simp_all [risesB, risesFrom]
    · intro h
      simp_all [risesB, risesFrom]
  | 4, _, _, _ =>
    simp only [foK, List.mem_cons, List.not_mem_nil, or_false, forall_eq_or_imp, forall_eq, getK, false_imp_iff, implies_true] at hp
    simp only [okK, onlyK, onlyA, atK, foK, clsK, liK, sameP, setK, getK, List.foldl_cons, List.foldl_nil, List.cons_append, List.nil_append, Bool.and_eq_true, decide_eq_true_eq, if_true, reduceCtorEq, if_false, true_and, List.append_nil, Nat.reduceEqDiff]
    constructor
    · intro h
      simp_all [risesB, risesFrom]
    · intro h
      simp_all [risesB, risesFrom]
  | 5, _, _, _ =>
    simp only [foK, List.mem_cons, List.not_mem_nil, or_false, forall_eq_or_imp, forall_eq, getK, false_imp_iff, implies_true] at hp
    simp only [okK, onlyK, onlyA, atK, foK, clsK, liK, sameP, setK, getK, List.foldl_cons, List.foldl_nil, List.cons_append, List.nil_append, Bool.and_eq_true, decide_eq_true_eq, if_true, reduceCtorEq, if_false, true_and, List.append_nil, Nat.reduceEqDiff]
    constructor
    · intro h
      simp_all [risesB, risesFrom]
    · intro h
      simp_all [risesB, risesFrom]
  | 6, _, _, hc => exact absurd hc (by decide)
  | 7, _, _, _ =>
    simp only [foK, List.mem_cons, List.not_mem_nil, or_false, forall_eq_or_imp, forall_eq, getK, false_imp_iff, implies_true] at hp
    simp only [okK, onlyK, onlyA, atK, foK, clsK, liK, sameP, setK, getK, List.foldl_cons, List.foldl_nil, List.cons_append, List.nil_append, Bool.and_eq_true, decide_eq_true_eq, if_true, reduceCtorEq, if_false, true_and, List.append_nil, Nat.reduceEqDiff]
    constructor
    · intro h
      simp_all [risesB, risesFrom]
    · intro h
      simp_all [risesB, risesFrom]
  | 8, _, _, _ =>
    simp only [foK, List.mem_cons, List.not_mem_nil, or_false, forall_eq_or_imp, forall_eq, getK, false_imp_iff, implies_true] at hp
    simp only [okK, onlyK, onlyA, atK, foK, clsK, liK, sameP, setK, getK, List.foldl_cons, List.foldl_nil, List.cons_append, List.nil_append, Bool.and_eq_true, decide_eq_true_eq, if_true, reduceCtorEq, if_false, true_and, List.append_nil, Nat.reduceEqDiff]
    constructor
    · intro h
      simp_all [risesB, risesFrom]
    · intro h
      simp_all [risesB, risesFrom]
  | 9, _, _, _ =>
    simp only [foK, List.mem_cons, List.not_mem_nil, or_false, forall_eq_or_imp, forall_eq, getK, false_imp_iff, implies_true] at hp
    simp only [okK, onlyK, onlyA, atK, foK, clsK, liK, sameP, setK, getK, List.foldl_cons, List.foldl_nil, List.cons_append, List.nil_append, Bool.and_eq_true, decide_eq_true_eq, if_true, reduceCtorEq, if_false, true_and, List.append_nil, Nat.reduceEqDiff]
    constructor
    · intro h
      simp_all [risesB, risesFrom]
    · intro h
      simp_all [risesB, risesFrom]
  | 10, _, _, _ =>
    simp only [foK, List.mem_cons, List.not_mem_nil, or_false, forall_eq_or_imp, forall_eq, getK, false_imp_iff, implies_true] at hp
    simp only [okK, onlyK, onlyA, atK, foK, clsK, liK, sameP, setK, getK, List.foldl_cons, List.foldl_nil, List.cons_append, List.nil_append, Bool.and_eq_true, decide_eq_true_eq, if_true, reduceCtorEq, if_false, true_and, List.append_nil, Nat.reduceEqDiff]
    constructor
    · intro h
      simp_all [risesB, risesFrom]
    · intro h
      simp_all [risesB, risesFrom]
  | 11, _, _, hc => exact absurd hc (by decide)
  | k + 12, _, h, _ => exact absurd h (by omega)
theorem check_is (k : Nat) (hc : clsK k < 2) (h1 : 1 ≤ k) (h2 : k ≤ 11) (x : S24) (hk : x.f0 = k) (hp : ∀ o ∈ foK k, 0 ≤ getK x o) (b : Bool) (hb : b = true ↔ sameP x (onlyK k x) ∧ risesB x.f7 = true) : checkK k x = if b then 0 else 180 := by
  unfold checkK
  have := ok_same k hc h1 h2 x hk hp
  cases b
  · rw [if_neg (fun h => by have := hb.2 (this.1 h); cases this)]; rfl
  · rw [if_pos (this.2 (hb.1 rfl))]; rfl
theorem li_c1 (k : Nat) (h : clsK k = 1) : liK k = false := by
  unfold clsK at h
  split at h <;> first | rfl | cases h
set_option maxRecDepth 100000 in
set_option maxHeartbeats 8000000 in
theorem check_c0 (k : Nat) (h1 : 1 ≤ k) (h2 : k ≤ 11) (hc : clsK k = 0) (x : S24) (hk : x.f0 = k) (A : Option Addr) (cap : Nat) (w : World) (hr : Kd.C (Kd.int .i64) w A x.f7.length x.f7) (hcap : x.f7.length ≤ cap) :
    Calls Tryd.prog 10 #[evV x A cap] w fun e w' => e = .returned (.int .i64 (checkK k x)) ∧ Below w.heap.size w w' := by
  have hu24 := Tryd.underlying24
  have hu48 := Tryd.underlying48
  have hu46 := Tryd.underlying46
  have HR := Aside0.mk hr
  have HCAP := Aside0.mk hcap
  have HCL := Aside0.mk hc
  have HKK := Aside0.mk hk
  have hfl := fo_len k
  have T1 := Aside0.mk True.intro
  clear hr hcap hc hk
  go_enter Tryd.func10, Tryd.ntmps10
  go_upto_region 6 with (first
    | (go_at_call 23; clear T1; refine (form_c0 k h1 h2 HCL.out _ x (.slice A x.f7.length cap) _ HKK.out (hp_lt _ _ _ _ (heap_alloc_new _ _))).mono ?_; rintro e w1 ⟨_, rfl, ⟨AF, rfl, hF⟩, hb⟩; have BE := Aside0.mk (blk_below (hp_lt _ _ _ _ (heap_alloc_new w (.cells (evC x (.slice A x.f7.length cap)) 24))) hb); have BO := Aside0.mk (blk_below (hp_new _ (.cells (evC ⟨x.f0, 0, 0, 0, 0, 0, 0, []⟩ (.slice none 0 0)) 24) (w.heap.size + 1) (by rw [size_alloc])) hb); have FF := Aside0.mk hF; have HZ := Aside0.mk ((bel2 w (.cells (evC x (.slice A x.f7.length cap)) 24) (.cells (evC ⟨x.f0, 0, 0, 0, 0, 0, 0, []⟩ (.slice none 0 0)) 24)).trans (hb.mono (by rw [size_alloc, size_alloc]; omega))); clear hF hb)
    | (go_at_call 23; refine (form_c0 k h1 h2 HCL.out _ (⟨x.f0, 0, 0, 0, 0, 0, 0, []⟩ : S24) (.slice none 0 0) _ HKK.out (hp_lt _ _ _ _ BO.out)).mono ?_; rintro e w2 ⟨_, rfl, ⟨AG, rfl, hG⟩, hb⟩; have BF := Aside0.mk (blk_below (heap_alloc_new w1 (.cells #[.string (wordB k), .slice AF (foK k).length (foK k).length, (.pointer none), .slice none 0 0, .pointer none, .bool (liK k)] 48)) hb); have hb1 := (bel1 w1 (.cells #[.string (wordB k), .slice AF (foK k).length (foK k).length, (.pointer none), .slice none 0 0, .pointer none, .bool (liK k)] 48)).trans (hb.mono (by rw [size_alloc]; omega)); have n1_ := Aside0.mk (blk_below BE.out hb1); have n2_ := Aside0.mk (blk_below BO.out hb1); have n4_ := Aside0.mk (fun j o hj => by obtain ⟨ad, e1, e2, e3⟩ := FF.out j o hj; exact ⟨ad, e1, e2, pw_cell_below hb1 e3⟩ : ∀ (j o : Nat), (foK k)[j]? = some o → ∃ ad, AF = some ad ∧ ad.block ≠ w.heap.size ∧ w2.cell? (ad.add j) = some (.pointer (some ⟨w.heap.size, o, none⟩))); have n5_ := Aside0.mk (HZ.out.trans (hb1.mono HZ.out.size)); clear BE BO FF HZ hb1; have BE := n1_; have BO := n2_; have FF := n4_; have HZ := n5_; have GG := Aside0.mk hG; clear n1_ n2_ n4_ n5_ hG hb))
  have BG := Aside0.mk (heap_alloc_new w2 (.cells #[.string (wordB k), .slice AG (foK k).length (foK k).length, (.pointer none), .slice none 0 0, .pointer none, .bool (liK k)] 48))
  have hb2 := bel1 w2 (.cells #[.string (wordB k), .slice AG (foK k).length (foK k).length, (.pointer none), .slice none 0 0, .pointer none, .bool (liK k)] 48)
  have n1_ := Aside0.mk (blk_below BE.out hb2)
  have n2_ := Aside0.mk (blk_below BO.out hb2)
  have n6_ := Aside0.mk (blk_below BF.out hb2)
  have n5_ := Aside0.mk (HZ.out.trans (hb2.mono HZ.out.size))
  have n3_ := Aside0.mk (fun j o hj => by obtain ⟨ad, e1, e2, e3⟩ := FF.out j o hj; exact ⟨ad, e1, e2, pw_cell_below hb2 e3⟩ : ∀ (j o : Nat), (foK k)[j]? = some o → ∃ ad, AF = some ad ∧ ad.block ≠ w.heap.size ∧ (w2.alloc (.cells #[.string (wordB k), .slice AG (foK k).length (foK k).length, (.pointer none), .slice none 0 0, .pointer none, .bool (liK k)] 48)).cell? (ad.add j) = some (.pointer (some ⟨w.heap.size, o, none⟩)))
  have n4_ := Aside0.mk (fun j o hj => by obtain ⟨ad, e1, e2, e3⟩ := GG.out j o hj; exact ⟨ad, e1, e2, pw_cell_below hb2 e3⟩ : ∀ (j o : Nat), (foK k)[j]? = some o → ∃ ad, AG = some ad ∧ ad.block ≠ w.heap.size + 1 ∧ (w2.alloc (.cells #[.string (wordB k), .slice AG (foK k).length (foK k).length, (.pointer none), .slice none 0 0, .pointer none, .bool (liK k)] 48)).cell? (ad.add j) = some (.pointer (some ⟨w.heap.size + 1, o, none⟩)))
  clear hb2 FF GG BE BO BF HZ
  generalize w1.heap.size = g4 at n6_ ⊢
  generalize w2.heap.size = g6 at BG ⊢
  generalize w2.alloc (.cells #[.string (wordB k), .slice AG (foK k).length (foK k).length, (.pointer none), .slice none 0 0, .pointer none, .bool (liK k)] 48) = wz at *
  have BE := n1_
  have BO := n2_
  have BF := n6_
  have HZ := n5_
  have FF := n3_
  have GG := n4_
  clear n1_ n2_ n3_ n4_ n5_ n6_
  have NE4 := Aside0.mk (show g4 ≠ w.heap.size + 1 by rintro rfl; have h1 := BF.out.symm.trans BO.out; injection h1 with h1; injection h1 with _ h2 _; cases h2)
  have NE6 := Aside0.mk (show g6 ≠ w.heap.size + 1 by rintro rfl; have h1 := BG.out.symm.trans BO.out; injection h1 with h1; injection h1 with _ h2 _; cases h2)
  have NAF : Aside0 (∀ ad, AF = some ad → ∀ j v, wz.cell? (ad.add j) = some (.pointer v) → ad.block ≠ w.heap.size + 1) := ⟨fun ad h j v hv => by have h1 := ev_noptr BO.out hv; rwa [add_block] at h1⟩
  have y1 : wz.cell? ⟨g4, 1, none⟩ = some (.slice AF (foK k).length (foK k).length) := (blk_cell BF.out 1).trans rfl
  go_wp2_with (fail)
  clear y1
  go_loopw [26] (fun i wr => ∃ a : Nat, i = .int .i64 a ∧ a ≤ (foK k).length ∧ Aside0 (∀ o ∈ (foK k).take a, 0 ≤ getK x o) ∧ Aside0 (wr.heap[w.heap.size + 1]? = some (.cells (evC (onlyA x ((foK k).take a)) (.slice none 0 0)) 24 (0, 0))) ∧ Aside0 (Fr wz.heap.size (w.heap.size + 1) wz wr)) (fun i _ => (foK k).length - (intOf i).toNat)
  case atStart => exact ⟨0, rfl, by omega, ⟨fun o ho => by simp at ho⟩, BO, ⟨⟨rfl, rfl, rfl, Nat.le_refl _, fun _ _ _ => rfl⟩⟩⟩
  case round =>
    clear BO
    obtain ⟨a, rfl, ha, HP, BO, FR⟩ := hrel
    have y1 : wr.cell? ⟨g4, 1, none⟩ = some (.slice AF (foK k).length (foK k).length) := (blk_cell (FR.out.blk BF.out (Nat.le_refl _) NE4.out) 1).trans rfl
    by_cases hlt : a < (foK k).length
    · obtain ⟨o, ho⟩ : ∃ o, (foK k)[a]? = some o := ⟨_, List.getElem?_eq_getElem hlt⟩
      obtain ⟨ad1, hA1, hn1, hc1⟩ := FF.out a o ho
      obtain ⟨ad2, hA2, hn2, hc2⟩ := GG.out a o ho
      have hb1 := NAF.out ad1 hA1 a _ hc1
      subst hA1 hA2
      have HO6 := Aside0.mk (fo_le k o (List.mem_of_getElem? ho))
      have HOM := Aside0.mk (List.mem_of_getElem? ho)
      have x1 : wr.cell? (ad1.add a) = some (.pointer (some ⟨w.heap.size, o, none⟩)) := FR.out.cell hc1 (Nat.le_refl _) (by rw [add_block]; exact hb1)
      have x2 : wr.cell? (ad2.add a) = some (.pointer (some ⟨w.heap.size + 1, o, none⟩)) := FR.out.cell hc2 (Nat.le_refl _) (by rw [add_block]; exact hn2)
      have BE2 := Aside0.mk (FR.out.blk BE.out (Nat.le_refl _) (Nat.ne_of_lt (Nat.lt_succ_self _)))
      obtain ⟨n, hn⟩ : ∃ n, n = getK x o := ⟨_, rfl⟩
      have HNN := Aside0.mk hn
      have e1 : wr.cell? ⟨w.heap.size, o, none⟩ = some (.int .i64 n) := (blk_cell BE2.out o).trans (by rw [hn]; exact ev_get x _ o HO6.out.1 HO6.out.2)
      have o1 : wr.cell? ⟨w.heap.size + 1, o, none⟩ = some (.int .i64 (getK (onlyA x ((foK k).take a)) o)) := (blk_cell BO.out o).trans (ev_get _ _ o HO6.out.1 HO6.out.2)
      have q1 : wr.frozen? ⟨w.heap.size + 1, o, none⟩ = false := Lib.frozen_of_heap BO.out o
      have z1 : wr.cell? ⟨g6, 1, none⟩ = some (.slice (some ad2) (foK k).length (foK k).length) := (blk_cell (FR.out.blk BG.out (Nat.le_refl _) NE6.out) 1).trans rfl
      have HT : Aside0 ((foK k).take (a + 1) = (foK k).take a ++ [o]) := ⟨by rw [List.take_add_one, ho]; rfl⟩
      clear hc1 hc2 hn1 hn2 hb1 ho hn
      by_cases hneg : n < 0
      · have d1 : decide (n < 0) = true := decide_eq_true hneg
        have HRS := Aside0.mk (ok_neg k o x HOM.out (HNN.out ▸ hneg))
        clear hneg
        go_wp2_with (fail)
        go_ret
        exact ⟨ret_int HRS.out.symm, HZ.out.trans (FR.out.below HZ.out.size (Nat.le_succ _))⟩
      · have d1 : decide (n < 0) = false := decide_eq_false hneg
        have HNG := Aside0.mk hneg
        clear hneg
        go_wp2_with (fail)
        go_region
        go_wp2_with (fail)
        go_roundw
        case rel => exact ⟨a + 1, by go_num, by omega, ⟨fun p hp => by rw [HT.out] at hp; rcases List.mem_append.1 hp with hp | hp; exact HP.out p hp; rw [List.mem_singleton] at hp; rw [hp, ← HNN.out]; have := HNG.out; omega⟩, ⟨by rw [HT.out, onlyA_snoc, ← HNN.out]; exact blk_put (w := wr) BO.out o _ (setK_cells _ _ n o HO6.out.1 HO6.out.2)⟩, ⟨by have h := fr_set (w1 := wr) FR.out o (.int .i64 n); exact ⟨h.os, h.tape, h.output, h.size, h.block⟩⟩⟩
        case measure => simp [intOf]; omega
    · obtain rfl : a = (foK k).length := by omega
      rw [List.take_length] at HP BO
      have HZ2 := Aside0.mk (HZ.out.trans (FR.out.below HZ.out.size (Nat.le_succ _)))
      have BE2 := Aside0.mk (FR.out.blk BE.out (Nat.le_refl _) (Nat.ne_of_lt (Nat.lt_succ_self _)))
      have BF2 := Aside0.mk (FR.out.blk BF.out (Nat.le_refl _) NE4.out)
      have BG2 := Aside0.mk (FR.out.blk BG.out (Nat.le_refl _) NE6.out)
      have y2 : wr.cell? ⟨g4, 2, none⟩ = some (.pointer none) := (blk_cell BF2.out 2).trans rfl
      have y3 : wr.cell? ⟨g4, 3, none⟩ = some (.slice none 0 0) := (blk_cell BF2.out 3).trans rfl
      have y5 : wr.cell? ⟨g4, 5, none⟩ = some (.bool (liK k)) := (blk_cell BF2.out 5).trans rfl
      clear y1 hlt ha
      have HON : Aside0 (onlyK k x = ⟨(onlyA x (foK k)).f0, (onlyA x (foK k)).f1, (onlyA x (foK k)).f2, (onlyA x (foK k)).f3, (onlyA x (foK k)).f4, (onlyA x (foK k)).f5, (onlyA x (foK k)).f6, if liK k then x.f7 else []⟩) := ⟨by unfold onlyK; rw [show atK k = foK k by unfold atK; rw [HCL.out]; simp]⟩
      cases hli : liK k with
      | false =>
        rw [hli] at y5 HON
        simp only [Bool.false_eq_true, if_false] at HON
        clear hli BE BF BG
        have BE := BE2
        clear BE2 BF2 BG2
        by_cases hs : sameP x (onlyK k x)
        · have SM := Aside0.mk hs
          rw [HON.out] at SM
          cases hri : risesB x.f7 with
          | true =>
            have RI := Aside0.mk hri
            have HRS : Aside0 (checkK k x = 0) := ⟨check_is k (by rw [HCL.out]; decide) h1 h2 x HKK.out HP.out true ⟨fun _ => ⟨hs, hri⟩, fun _ => rfl⟩⟩
            clear hs hri
            go_wp2_with (first
              | (refine wpList_load_row rfl 24 (.tmp 1) rfl w.heap.size rfl 24 (evC x (.slice A x.f7.length cap)) (0, 0) _ BE.out Tryd.underlying24 rfl (by kernel_rfl) ?_)
              | (refine wpList_load_row rfl 24 (.tmp 3) rfl (w.heap.size + 1) rfl 24 (evC (onlyA x (foK k)) (.slice none 0 0)) (0, 0) _ BO.out Tryd.underlying24 rfl (by kernel_rfl) ?_)
              | (go_at_call 24; refine (same_yes x (⟨(onlyA x (foK k)).f0, (onlyA x (foK k)).f1, (onlyA x (foK k)).f2, (onlyA x (foK k)).f3, (onlyA x (foK k)).f4, (onlyA x (foK k)).f5, (onlyA x (foK k)).f6, []⟩ : S24) A none cap 0 _ (Kd.C_below HR.out HZ2.out) HCAP.out (Kd.C_nil _ _) (Nat.le_refl _) SM.out).mono ?_; rintro e wq ⟨rfl, hb⟩; have x7 : wq.cell? ⟨w.heap.size, 7, none⟩ = some (.slice A x.f7.length cap) := cell_keep BE.out hb rfl; have HB2 := Aside0.mk (below_then HZ2.out HZ2.out.size hb); clear HZ2 hb; have HZ2 := HB2; clear HB2)
              | (go_at_call 25; refine (rises_any x.f7 A cap _ (Kd.C_below HR.out HZ2.out) HCAP.out _ RI.out).mono ?_; rintro e wr ⟨rfl, hd⟩; have HB2 := Aside0.mk (below_then HZ2.out HZ2.out.size hd.below); clear HZ2 hd; have HZ2 := HB2; clear HB2))
            go_ret
            exact ⟨ret_int HRS.out.symm, HZ2.out⟩
          | false =>
            have RI := Aside0.mk hri
            have HRS : Aside0 (checkK k x = 180) := ⟨check_is k (by rw [HCL.out]; decide) h1 h2 x HKK.out HP.out false ⟨fun h => (Bool.noConfusion h), fun h => by rw [hri] at h; exact h.2⟩⟩
            clear hs hri
            go_wp2_with (first
              | (refine wpList_load_row rfl 24 (.tmp 1) rfl w.heap.size rfl 24 (evC x (.slice A x.f7.length cap)) (0, 0) _ BE.out Tryd.underlying24 rfl (by kernel_rfl) ?_)
              | (refine wpList_load_row rfl 24 (.tmp 3) rfl (w.heap.size + 1) rfl 24 (evC (onlyA x (foK k)) (.slice none 0 0)) (0, 0) _ BO.out Tryd.underlying24 rfl (by kernel_rfl) ?_)
              | (go_at_call 24; refine (same_yes x (⟨(onlyA x (foK k)).f0, (onlyA x (foK k)).f1, (onlyA x (foK k)).f2, (onlyA x (foK k)).f3, (onlyA x (foK k)).f4, (onlyA x (foK k)).f5, (onlyA x (foK k)).f6, []⟩ : S24) A none cap 0 _ (Kd.C_below HR.out HZ2.out) HCAP.out (Kd.C_nil _ _) (Nat.le_refl _) SM.out).mono ?_; rintro e wq ⟨rfl, hb⟩; have x7 : wq.cell? ⟨w.heap.size, 7, none⟩ = some (.slice A x.f7.length cap) := cell_keep BE.out hb rfl; have HB2 := Aside0.mk (below_then HZ2.out HZ2.out.size hb); clear HZ2 hb; have HZ2 := HB2; clear HB2)
              | (go_at_call 25; refine (rises_any x.f7 A cap _ (Kd.C_below HR.out HZ2.out) HCAP.out _ RI.out).mono ?_; rintro e wr ⟨rfl, hd⟩; have HB2 := Aside0.mk (below_then HZ2.out HZ2.out.size hd.below); clear HZ2 hd; have HZ2 := HB2; clear HB2))
            go_ret
            exact ⟨ret_int HRS.out.symm, HZ2.out⟩
        · have SM := Aside0.mk hs
          rw [HON.out] at SM
          have HRS : Aside0 (checkK k x = 180) := ⟨check_is k (by rw [HCL.out]; decide) h1 h2 x HKK.out HP.out false ⟨fun h => (Bool.noConfusion h), fun h => absurd h.1 hs⟩⟩
          clear hs
          go_wp2_with (first
            | (refine wpList_load_row rfl 24 (.tmp 1) rfl w.heap.size rfl 24 (evC x (.slice A x.f7.length cap)) (0, 0) _ BE.out Tryd.underlying24 rfl (by kernel_rfl) ?_)
            | (refine wpList_load_row rfl 24 (.tmp 3) rfl (w.heap.size + 1) rfl 24 (evC (onlyA x (foK k)) (.slice none 0 0)) (0, 0) _ BO.out Tryd.underlying24 rfl (by kernel_rfl) ?_)
            | (go_at_call 24; refine (same_no x (⟨(onlyA x (foK k)).f0, (onlyA x (foK k)).f1, (onlyA x (foK k)).f2, (onlyA x (foK k)).f3, (onlyA x (foK k)).f4, (onlyA x (foK k)).f5, (onlyA x (foK k)).f6, []⟩ : S24) A none cap 0 _ (Kd.C_below HR.out HZ2.out) HCAP.out (Kd.C_nil _ _) (Nat.le_refl _) SM.out).mono ?_; rintro e wq ⟨rfl, hb⟩; have x7 : wq.cell? ⟨w.heap.size, 7, none⟩ = some (.slice A x.f7.length cap) := cell_keep BE.out hb rfl; have HB2 := Aside0.mk (below_then HZ2.out HZ2.out.size hb); clear HZ2 hb; have HZ2 := HB2; clear HB2)
            | (go_at_call 25; refine (rises_any x.f7 A cap _ (Kd.C_below HR.out HZ2.out) HCAP.out _ RI.out).mono ?_; rintro e wr ⟨rfl, hd⟩; have HB2 := Aside0.mk (below_then HZ2.out HZ2.out.size hd.below); clear HZ2 hd; have HZ2 := HB2; clear HB2))
          go_ret
          exact ⟨ret_int HRS.out.symm, HZ2.out⟩
      | true =>
        rw [hli] at y5 HON
        simp only [if_true] at HON
        have e7 : wr.cell? ⟨w.heap.size, 7, none⟩ = some (.slice A x.f7.length cap) := (blk_cell BE2.out 7).trans rfl
        have o7 : wr.cell? ⟨w.heap.size + 1, 7, none⟩ = some (.slice none 0 0) := (blk_cell BO.out 7).trans rfl
        have q7 : wr.frozen? ⟨w.heap.size + 1, 7, none⟩ = false := Lib.frozen_of_heap BO.out 7
        go_upto_region 21 with (fail)
        have BE3 : Aside0 ((wr.setCell ⟨w.heap.size + 1, 7, none⟩ (.slice A x.f7.length cap)).heap[w.heap.size]? = some (.cells (evC x (.slice A x.f7.length cap)) 24 (0, 0))) := ⟨hp_setne wr _ _ _ 7 _ (by omega) BE2.out⟩
        have BO3 : Aside0 ((wr.setCell ⟨w.heap.size + 1, 7, none⟩ (.slice A x.f7.length cap)).heap[w.heap.size + 1]? = some (.cells (evC (onlyA x (foK k)) (.slice A x.f7.length cap)) 24 (0, 0))) := ⟨blk_put (w := wr) BO.out 7 _ rfl⟩
        have HZ3 : Aside0 (Below w.heap.size w (wr.setCell ⟨w.heap.size + 1, 7, none⟩ (.slice A x.f7.length cap))) := ⟨Below.setCell HZ2.out (p := ⟨w.heap.size + 1, 7, none⟩) (Nat.le_succ _) _⟩
        clear hli BE BF BG BE2 BF2 BG2 BO HZ2 y2 y3 y5 e7 o7 q7
        generalize wr.setCell ⟨w.heap.size + 1, 7, none⟩ (.slice A x.f7.length cap) = wu at BE3 BO3 HZ3 ⊢
        have BE := BE3
        have BO := BO3
        have HZ2 := HZ3
        clear BE3 BO3 HZ3
        by_cases hs : sameP x (onlyK k x)
        · have SM := Aside0.mk hs
          rw [HON.out] at SM
          cases hri : risesB x.f7 with
          | true =>
            have RI := Aside0.mk hri
            have HRS : Aside0 (checkK k x = 0) := ⟨check_is k (by rw [HCL.out]; decide) h1 h2 x HKK.out HP.out true ⟨fun _ => ⟨hs, hri⟩, fun _ => rfl⟩⟩
            clear hs hri
            go_wp2_with (first
              | (refine wpList_load_row rfl 24 (.tmp 1) rfl w.heap.size rfl 24 (evC x (.slice A x.f7.length cap)) (0, 0) _ BE.out Tryd.underlying24 rfl (by kernel_rfl) ?_)
              | (refine wpList_load_row rfl 24 (.tmp 3) rfl (w.heap.size + 1) rfl 24 (evC (onlyA x (foK k)) (.slice A x.f7.length cap)) (0, 0) _ BO.out Tryd.underlying24 rfl (by kernel_rfl) ?_)
              | (go_at_call 24; refine (same_yes x (⟨(onlyA x (foK k)).f0, (onlyA x (foK k)).f1, (onlyA x (foK k)).f2, (onlyA x (foK k)).f3, (onlyA x (foK k)).f4, (onlyA x (foK k)).f5, (onlyA x (foK k)).f6, x.f7⟩ : S24) A A cap cap _ (Kd.C_below HR.out HZ2.out) HCAP.out (Kd.C_below HR.out HZ2.out) HCAP.out SM.out).mono ?_; rintro e wq ⟨rfl, hb⟩; have x7 : wq.cell? ⟨w.heap.size, 7, none⟩ = some (.slice A x.f7.length cap) := cell_keep BE.out hb rfl; have HB2 := Aside0.mk (below_then HZ2.out HZ2.out.size hb); clear HZ2 hb; have HZ2 := HB2; clear HB2)
              | (go_at_call 25; refine (rises_any x.f7 A cap _ (Kd.C_below HR.out HZ2.out) HCAP.out _ RI.out).mono ?_; rintro e wr ⟨rfl, hd⟩; have HB2 := Aside0.mk (below_then HZ2.out HZ2.out.size hd.below); clear HZ2 hd; have HZ2 := HB2; clear HB2))
            go_ret
            exact ⟨ret_int HRS.out.symm, HZ2.out⟩
          | false =>
            have RI := Aside0.mk hri
            have HRS : Aside0 (checkK k x = 180) := ⟨check_is k (by rw [HCL.out]; decide) h1 h2 x HKK.out HP.out false ⟨fun h => (Bool.noConfusion h), fun h => by rw [hri] at h; exact h.2⟩⟩
            clear hs hri
            go_wp2_with (first
              | (refine wpList_load_row rfl 24 (.tmp 1) rfl w.heap.size rfl 24 (evC x (.slice A x.f7.length cap)) (0, 0) _ BE.out Tryd.underlying24 rfl (by kernel_rfl) ?_)
              | (refine wpList_load_row rfl 24 (.tmp 3) rfl (w.heap.size + 1) rfl 24 (evC (onlyA x (foK k)) (.slice A x.f7.length cap)) (0, 0) _ BO.out Tryd.underlying24 rfl (by kernel_rfl) ?_)
              | (go_at_call 24; refine (same_yes x (⟨(onlyA x (foK k)).f0, (onlyA x (foK k)).f1, (onlyA x (foK k)).f2, (onlyA x (foK k)).f3, (onlyA x (foK k)).f4, (onlyA x (foK k)).f5, (onlyA x (foK k)).f6, x.f7⟩ : S24) A A cap cap _ (Kd.C_below HR.out HZ2.out) HCAP.out (Kd.C_below HR.out HZ2.out) HCAP.out SM.out).mono ?_; rintro e wq ⟨rfl, hb⟩; have x7 : wq.cell? ⟨w.heap.size, 7, none⟩ = some (.slice A x.f7.length cap) := cell_keep BE.out hb rfl; have HB2 := Aside0.mk (below_then HZ2.out HZ2.out.size hb); clear HZ2 hb; have HZ2 := HB2; clear HB2)
              | (go_at_call 25; refine (rises_any x.f7 A cap _ (Kd.C_below HR.out HZ2.out) HCAP.out _ RI.out).mono ?_; rintro e wr ⟨rfl, hd⟩; have HB2 := Aside0.mk (below_then HZ2.out HZ2.out.size hd.below); clear HZ2 hd; have HZ2 := HB2; clear HB2))
            go_ret
            exact ⟨ret_int HRS.out.symm, HZ2.out⟩
        · have SM := Aside0.mk hs
          rw [HON.out] at SM
          have HRS : Aside0 (checkK k x = 180) := ⟨check_is k (by rw [HCL.out]; decide) h1 h2 x HKK.out HP.out false ⟨fun h => (Bool.noConfusion h), fun h => absurd h.1 hs⟩⟩
          clear hs
          go_wp2_with (first
            | (refine wpList_load_row rfl 24 (.tmp 1) rfl w.heap.size rfl 24 (evC x (.slice A x.f7.length cap)) (0, 0) _ BE.out Tryd.underlying24 rfl (by kernel_rfl) ?_)
            | (refine wpList_load_row rfl 24 (.tmp 3) rfl (w.heap.size + 1) rfl 24 (evC (onlyA x (foK k)) (.slice A x.f7.length cap)) (0, 0) _ BO.out Tryd.underlying24 rfl (by kernel_rfl) ?_)
            | (go_at_call 24; refine (same_no x (⟨(onlyA x (foK k)).f0, (onlyA x (foK k)).f1, (onlyA x (foK k)).f2, (onlyA x (foK k)).f3, (onlyA x (foK k)).f4, (onlyA x (foK k)).f5, (onlyA x (foK k)).f6, x.f7⟩ : S24) A A cap cap _ (Kd.C_below HR.out HZ2.out) HCAP.out (Kd.C_below HR.out HZ2.out) HCAP.out SM.out).mono ?_; rintro e wq ⟨rfl, hb⟩; have x7 : wq.cell? ⟨w.heap.size, 7, none⟩ = some (.slice A x.f7.length cap) := cell_keep BE.out hb rfl; have HB2 := Aside0.mk (below_then HZ2.out HZ2.out.size hb); clear HZ2 hb; have HZ2 := HB2; clear HB2)
            | (go_at_call 25; refine (rises_any x.f7 A cap _ (Kd.C_below HR.out HZ2.out) HCAP.out _ RI.out).mono ?_; rintro e wr ⟨rfl, hd⟩; have HB2 := Aside0.mk (below_then HZ2.out HZ2.out.size hd.below); clear HZ2 hd; have HZ2 := HB2; clear HB2))
          go_ret
          exact ⟨ret_int HRS.out.symm, HZ2.out⟩
set_option maxRecDepth 100000 in
set_option maxHeartbeats 8000000 in
theorem check_c1 (k : Nat) (h1 : 1 ≤ k) (h2 : k ≤ 11) (hc : clsK k = 1) (x : S24) (hk : x.f0 = k) (A : Option Addr) (cap : Nat) (w : World) (hr : Kd.C (Kd.int .i64) w A x.f7.length x.f7) (hcap : x.f7.length ≤ cap) :
    Calls Tryd.prog 10 #[evV x A cap] w fun e w' => e = .returned (.int .i64 (checkK k x)) ∧ Below w.heap.size w w' := by
  have hu24 := Tryd.underlying24
  have hu48 := Tryd.underlying48
  have hu46 := Tryd.underlying46
  have HR := Aside0.mk hr
  have HCAP := Aside0.mk hcap
  have HCL := Aside0.mk hc
  have HKK := Aside0.mk hk
  have hfl := fo_len k
  have T1 := Aside0.mk True.intro
  clear hr hcap hc hk
  go_enter Tryd.func10, Tryd.ntmps10
  go_upto_region 6 with (first
    | (go_at_call 23; clear T1; refine (form_c1 k h1 h2 HCL.out _ x (.slice A x.f7.length cap) _ HKK.out (hp_lt _ _ _ _ (heap_alloc_new _ _))).mono ?_; rintro e w1 ⟨_, rfl, ⟨AF, rfl, hF⟩, hb⟩; have BE := Aside0.mk (blk_below (hp_lt _ _ _ _ (heap_alloc_new w (.cells (evC x (.slice A x.f7.length cap)) 24))) hb); have BO := Aside0.mk (blk_below (hp_new _ (.cells (evC ⟨x.f0, 0, 0, 0, 0, 0, 0, []⟩ (.slice none 0 0)) 24) (w.heap.size + 1) (by rw [size_alloc])) hb); have FF := Aside0.mk hF; have HZ := Aside0.mk ((bel2 w (.cells (evC x (.slice A x.f7.length cap)) 24) (.cells (evC ⟨x.f0, 0, 0, 0, 0, 0, 0, []⟩ (.slice none 0 0)) 24)).trans (hb.mono (by rw [size_alloc, size_alloc]; omega))); clear hF hb)
    | (go_at_call 23; refine (form_c1 k h1 h2 HCL.out _ (⟨x.f0, 0, 0, 0, 0, 0, 0, []⟩ : S24) (.slice none 0 0) _ HKK.out (hp_lt _ _ _ _ BO.out)).mono ?_; rintro e w2 ⟨_, rfl, ⟨AG, rfl, hG⟩, hb⟩; have BF := Aside0.mk (blk_below (heap_alloc_new w1 (.cells #[.string (wordB k), .slice AF (foK k).length (foK k).length, (.pointer (some ⟨w.heap.size, 6, none⟩)), .slice none 0 0, .pointer none, .bool false] 48)) hb); have hb1 := (bel1 w1 (.cells #[.string (wordB k), .slice AF (foK k).length (foK k).length, (.pointer (some ⟨w.heap.size, 6, none⟩)), .slice none 0 0, .pointer none, .bool false] 48)).trans (hb.mono (by rw [size_alloc]; omega)); have n1_ := Aside0.mk (blk_below BE.out hb1); have n2_ := Aside0.mk (blk_below BO.out hb1); have n4_ := Aside0.mk (fun j o hj => by obtain ⟨ad, e1, e2, e3⟩ := FF.out j o hj; exact ⟨ad, e1, e2, pw_cell_below hb1 e3⟩ : ∀ (j o : Nat), (foK k)[j]? = some o → ∃ ad, AF = some ad ∧ ad.block ≠ w.heap.size ∧ w2.cell? (ad.add j) = some (.pointer (some ⟨w.heap.size, o, none⟩))); have n5_ := Aside0.mk (HZ.out.trans (hb1.mono HZ.out.size)); clear BE BO FF HZ hb1; have BE := n1_; have BO := n2_; have FF := n4_; have HZ := n5_; have GG := Aside0.mk hG; clear n1_ n2_ n4_ n5_ hG hb))
  have BG := Aside0.mk (heap_alloc_new w2 (.cells #[.string (wordB k), .slice AG (foK k).length (foK k).length, (.pointer (some ⟨w.heap.size + 1, 6, none⟩)), .slice none 0 0, .pointer none, .bool false] 48))
  have hb2 := bel1 w2 (.cells #[.string (wordB k), .slice AG (foK k).length (foK k).length, (.pointer (some ⟨w.heap.size + 1, 6, none⟩)), .slice none 0 0, .pointer none, .bool false] 48)
  have n1_ := Aside0.mk (blk_below BE.out hb2)
  have n2_ := Aside0.mk (blk_below BO.out hb2)
  have n6_ := Aside0.mk (blk_below BF.out hb2)
  have n5_ := Aside0.mk (HZ.out.trans (hb2.mono HZ.out.size))
  have n3_ := Aside0.mk (fun j o hj => by obtain ⟨ad, e1, e2, e3⟩ := FF.out j o hj; exact ⟨ad, e1, e2, pw_cell_below hb2 e3⟩ : ∀ (j o : Nat), (foK k)[j]? = some o → ∃ ad, AF = some ad ∧ ad.block ≠ w.heap.size ∧ (w2.alloc (.cells #[.string (wordB k), .slice AG (foK k).length (foK k).length, (.pointer (some ⟨w.heap.size + 1, 6, none⟩)), .slice none 0 0, .pointer none, .bool false] 48)).cell? (ad.add j) = some (.pointer (some ⟨w.heap.size, o, none⟩)))
  have n4_ := Aside0.mk (fun j o hj => by obtain ⟨ad, e1, e2, e3⟩ := GG.out j o hj; exact ⟨ad, e1, e2, pw_cell_below hb2 e3⟩ : ∀ (j o : Nat), (foK k)[j]? = some o → ∃ ad, AG = some ad ∧ ad.block ≠ w.heap.size + 1 ∧ (w2.alloc (.cells #[.string (wordB k), .slice AG (foK k).length (foK k).length, (.pointer (some ⟨w.heap.size + 1, 6, none⟩)), .slice none 0 0, .pointer none, .bool false] 48)).cell? (ad.add j) = some (.pointer (some ⟨w.heap.size + 1, o, none⟩)))
  clear hb2 FF GG BE BO BF HZ
  generalize w1.heap.size = g4 at n6_ ⊢
  generalize w2.heap.size = g6 at BG ⊢
  generalize w2.alloc (.cells #[.string (wordB k), .slice AG (foK k).length (foK k).length, (.pointer (some ⟨w.heap.size + 1, 6, none⟩)), .slice none 0 0, .pointer none, .bool false] 48) = wz at *
  have BE := n1_
  have BO := n2_
  have BF := n6_
  have HZ := n5_
  have FF := n3_
  have GG := n4_
  clear n1_ n2_ n3_ n4_ n5_ n6_
  have NE4 := Aside0.mk (show g4 ≠ w.heap.size + 1 by rintro rfl; have h1 := BF.out.symm.trans BO.out; injection h1 with h1; injection h1 with _ h2 _; cases h2)
  have NE6 := Aside0.mk (show g6 ≠ w.heap.size + 1 by rintro rfl; have h1 := BG.out.symm.trans BO.out; injection h1 with h1; injection h1 with _ h2 _; cases h2)
  have NAF : Aside0 (∀ ad, AF = some ad → ∀ j v, wz.cell? (ad.add j) = some (.pointer v) → ad.block ≠ w.heap.size + 1) := ⟨fun ad h j v hv => by have h1 := ev_noptr BO.out hv; rwa [add_block] at h1⟩
  have y1 : wz.cell? ⟨g4, 1, none⟩ = some (.slice AF (foK k).length (foK k).length) := (blk_cell BF.out 1).trans rfl
  go_wp2_with (fail)
  clear y1
  go_loopw [26] (fun i wr => ∃ a : Nat, i = .int .i64 a ∧ a ≤ (foK k).length ∧ Aside0 (∀ o ∈ (foK k).take a, 0 ≤ getK x o) ∧ Aside0 (wr.heap[w.heap.size + 1]? = some (.cells (evC (onlyA x ((foK k).take a)) (.slice none 0 0)) 24 (0, 0))) ∧ Aside0 (Fr wz.heap.size (w.heap.size + 1) wz wr)) (fun i _ => (foK k).length - (intOf i).toNat)
  case atStart => exact ⟨0, rfl, by omega, ⟨fun o ho => by simp at ho⟩, BO, ⟨⟨rfl, rfl, rfl, Nat.le_refl _, fun _ _ _ => rfl⟩⟩⟩
  case round =>
    clear BO
    obtain ⟨a, rfl, ha, HP, BO, FR⟩ := hrel
    have y1 : wr.cell? ⟨g4, 1, none⟩ = some (.slice AF (foK k).length (foK k).length) := (blk_cell (FR.out.blk BF.out (Nat.le_refl _) NE4.out) 1).trans rfl
    by_cases hlt : a < (foK k).length
    · obtain ⟨o, ho⟩ : ∃ o, (foK k)[a]? = some o := ⟨_, List.getElem?_eq_getElem hlt⟩
      obtain ⟨ad1, hA1, hn1, hc1⟩ := FF.out a o ho
      obtain ⟨ad2, hA2, hn2, hc2⟩ := GG.out a o ho
      have hb1 := NAF.out ad1 hA1 a _ hc1
      subst hA1 hA2
      have HO6 := Aside0.mk (fo_le k o (List.mem_of_getElem? ho))
      have HOM := Aside0.mk (List.mem_of_getElem? ho)
      have x1 : wr.cell? (ad1.add a) = some (.pointer (some ⟨w.heap.size, o, none⟩)) := FR.out.cell hc1 (Nat.le_refl _) (by rw [add_block]; exact hb1)
      have x2 : wr.cell? (ad2.add a) = some (.pointer (some ⟨w.heap.size + 1, o, none⟩)) := FR.out.cell hc2 (Nat.le_refl _) (by rw [add_block]; exact hn2)
      have BE2 := Aside0.mk (FR.out.blk BE.out (Nat.le_refl _) (Nat.ne_of_lt (Nat.lt_succ_self _)))
      obtain ⟨n, hn⟩ : ∃ n, n = getK x o := ⟨_, rfl⟩
      have HNN := Aside0.mk hn
      have e1 : wr.cell? ⟨w.heap.size, o, none⟩ = some (.int .i64 n) := (blk_cell BE2.out o).trans (by rw [hn]; exact ev_get x _ o HO6.out.1 HO6.out.2)
      have o1 : wr.cell? ⟨w.heap.size + 1, o, none⟩ = some (.int .i64 (getK (onlyA x ((foK k).take a)) o)) := (blk_cell BO.out o).trans (ev_get _ _ o HO6.out.1 HO6.out.2)
      have q1 : wr.frozen? ⟨w.heap.size + 1, o, none⟩ = false := Lib.frozen_of_heap BO.out o
      have z1 : wr.cell? ⟨g6, 1, none⟩ = some (.slice (some ad2) (foK k).length (foK k).length) := (blk_cell (FR.out.blk BG.out (Nat.le_refl _) NE6.out) 1).trans rfl
      have HT : Aside0 ((foK k).take (a + 1) = (foK k).take a ++ [o]) := ⟨by rw [List.take_add_one, ho]; rfl⟩
      clear hc1 hc2 hn1 hn2 hb1 ho hn
      by_cases hneg : n < 0
      · have d1 : decide (n < 0) = true := decide_eq_true hneg
        have HRS := Aside0.mk (ok_neg k o x HOM.out (HNN.out ▸ hneg))
        clear hneg
        go_wp2_with (fail)
        go_ret
        exact ⟨ret_int HRS.out.symm, HZ.out.trans (FR.out.below HZ.out.size (Nat.le_succ _))⟩
      · have d1 : decide (n < 0) = false := decide_eq_false hneg
        have HNG := Aside0.mk hneg
        clear hneg
        go_wp2_with (fail)
        go_region
        go_wp2_with (fail)
        go_roundw
        case rel => exact ⟨a + 1, by go_num, by omega, ⟨fun p hp => by rw [HT.out] at hp; rcases List.mem_append.1 hp with hp | hp; exact HP.out p hp; rw [List.mem_singleton] at hp; rw [hp, ← HNN.out]; have := HNG.out; omega⟩, ⟨by rw [HT.out, onlyA_snoc, ← HNN.out]; exact blk_put (w := wr) BO.out o _ (setK_cells _ _ n o HO6.out.1 HO6.out.2)⟩, ⟨by have h := fr_set (w1 := wr) FR.out o (.int .i64 n); exact ⟨h.os, h.tape, h.output, h.size, h.block⟩⟩⟩
        case measure => simp [intOf]; omega
    · obtain rfl : a = (foK k).length := by omega
      rw [List.take_length] at HP BO
      have HZ2 := Aside0.mk (HZ.out.trans (FR.out.below HZ.out.size (Nat.le_succ _)))
      have BE2 := Aside0.mk (FR.out.blk BE.out (Nat.le_refl _) (Nat.ne_of_lt (Nat.lt_succ_self _)))
      have BF2 := Aside0.mk (FR.out.blk BF.out (Nat.le_refl _) NE4.out)
      have BG2 := Aside0.mk (FR.out.blk BG.out (Nat.le_refl _) NE6.out)
      have y2 : wr.cell? ⟨g4, 2, none⟩ = some (.pointer (some ⟨w.heap.size, 6, none⟩)) := (blk_cell BF2.out 2).trans rfl
      have y3 : wr.cell? ⟨g4, 3, none⟩ = some (.slice none 0 0) := (blk_cell BF2.out 3).trans rfl
      have y5 : wr.cell? ⟨g4, 5, none⟩ = some (.bool false) := (blk_cell BF2.out 5).trans rfl
      clear y1 hlt ha
      have HON : Aside0 (onlyK k x = ⟨(onlyA x (atK k)).f0, (onlyA x (atK k)).f1, (onlyA x (atK k)).f2, (onlyA x (atK k)).f3, (onlyA x (atK k)).f4, (onlyA x (atK k)).f5, (onlyA x (atK k)).f6, []⟩) := ⟨by unfold onlyK; rw [show liK k = false from li_c1 k HCL.out]; simp⟩
      have HAT : Aside0 (onlyA x (atK k) = setK (onlyA x (foK k)) x.f6 6) := ⟨by rw [show atK k = foK k ++ [6] by unfold atK; rw [HCL.out]; simp, onlyA_snoc]; rfl⟩
      have z2 : wr.cell? ⟨g6, 2, none⟩ = some (.pointer (some ⟨w.heap.size + 1, 6, none⟩)) := (blk_cell BG2.out 2).trans rfl
      have e6 : wr.cell? ⟨w.heap.size, 6, none⟩ = some (.int .i64 x.f6) := (blk_cell BE2.out 6).trans rfl
      have o6 : wr.cell? ⟨w.heap.size + 1, 6, none⟩ = some (.int .i64 (onlyA x (foK k)).f6) := (blk_cell BO.out 6).trans rfl
      have q6 : wr.frozen? ⟨w.heap.size + 1, 6, none⟩ = false := Lib.frozen_of_heap BO.out 6
      go_wp2_with (fail)
      go_region
      have BE3 : Aside0 ((wr.setCell ⟨w.heap.size + 1, 6, none⟩ (.int .i64 x.f6)).drew.heap[w.heap.size]? = some (.cells (evC x (.slice A x.f7.length cap)) 24 (0, 0))) := ⟨hp_setne wr _ _ _ 6 _ (by omega) BE2.out⟩
      have BO3 : Aside0 ((wr.setCell ⟨w.heap.size + 1, 6, none⟩ (.int .i64 x.f6)).drew.heap[w.heap.size + 1]? = some (.cells (evC (onlyA x (atK k)) (.slice none 0 0)) 24 (0, 0))) := ⟨by rw [HAT.out]; exact blk_put (w := wr) BO.out 6 _ (setK_cells _ _ x.f6 6 (by omega) (by omega))⟩
      have BF3 : Aside0 ((wr.setCell ⟨w.heap.size + 1, 6, none⟩ (.int .i64 x.f6)).drew.heap[g4]? = some (.cells #[.string (wordB k), .slice AF (foK k).length (foK k).length, (.pointer (some ⟨w.heap.size, 6, none⟩)), .slice none 0 0, .pointer none, .bool false] 48 (0, 0))) := ⟨hp_setne wr _ _ _ 6 _ NE4.out BF2.out⟩
      have HZ3 : Aside0 (Below w.heap.size w (wr.setCell ⟨w.heap.size + 1, 6, none⟩ (.int .i64 x.f6)).drew) := ⟨below_drew (Below.setCell HZ2.out (p := ⟨w.heap.size + 1, 6, none⟩) (Nat.le_succ _) _)⟩
      clear BE BF BG BE2 BF2 BG2 BO HZ2 y2 y3 y5 z2 e6 o6 q6
      generalize (wr.setCell ⟨w.heap.size + 1, 6, none⟩ (.int .i64 x.f6)).drew = wu at BE3 BO3 BF3 HZ3 ⊢
      have BE := BE3
      have BO := BO3
      have HZ2 := HZ3
      have y3 : wu.cell? ⟨g4, 3, none⟩ = some (.slice none 0 0) := (blk_cell BF3.out 3).trans rfl
      have y5 : wu.cell? ⟨g4, 5, none⟩ = some (.bool false) := (blk_cell BF3.out 5).trans rfl
      clear BE3 BO3 HZ3 BF3
      by_cases hs : sameP x (onlyK k x)
      · have SM := Aside0.mk hs
        rw [HON.out] at SM
        cases hri : risesB x.f7 with
        | true =>
          have RI := Aside0.mk hri
          have HRS : Aside0 (checkK k x = 0) := ⟨check_is k (by rw [HCL.out]; decide) h1 h2 x HKK.out HP.out true ⟨fun _ => ⟨hs, hri⟩, fun _ => rfl⟩⟩
          clear hs hri
          go_wp2_with (first
            | (refine wpList_load_row rfl 24 (.tmp 1) rfl w.heap.size rfl 24 (evC x (.slice A x.f7.length cap)) (0, 0) _ BE.out Tryd.underlying24 rfl (by kernel_rfl) ?_)
            | (refine wpList_load_row rfl 24 (.tmp 3) rfl (w.heap.size + 1) rfl 24 (evC (onlyA x (atK k)) (.slice none 0 0)) (0, 0) _ BO.out Tryd.underlying24 rfl (by kernel_rfl) ?_)
            | (go_at_call 24; refine (same_yes x (⟨(onlyA x (atK k)).f0, (onlyA x (atK k)).f1, (onlyA x (atK k)).f2, (onlyA x (atK k)).f3, (onlyA x (atK k)).f4, (onlyA x (atK k)).f5, (onlyA x (atK k)).f6, []⟩ : S24) A none cap 0 _ (Kd.C_below HR.out HZ2.out) HCAP.out (Kd.C_nil _ _) (Nat.le_refl _) SM.out).mono ?_; rintro e wq ⟨rfl, hb⟩; have x7 : wq.cell? ⟨w.heap.size, 7, none⟩ = some (.slice A x.f7.length cap) := cell_keep BE.out hb rfl; have HB2 := Aside0.mk (below_then HZ2.out HZ2.out.size hb); clear HZ2 hb; have HZ2 := HB2; clear HB2)
            | (go_at_call 25; refine (rises_any x.f7 A cap _ (Kd.C_below HR.out HZ2.out) HCAP.out _ RI.out).mono ?_; rintro e wr ⟨rfl, hd⟩; have HB2 := Aside0.mk (below_then HZ2.out HZ2.out.size hd.below); clear HZ2 hd; have HZ2 := HB2; clear HB2))
          go_ret
          exact ⟨ret_int HRS.out.symm, HZ2.out⟩
        | false =>
          have RI := Aside0.mk hri
          have HRS : Aside0 (checkK k x = 180) := ⟨check_is k (by rw [HCL.out]; decide) h1 h2 x HKK.out HP.out false ⟨fun h => (Bool.noConfusion h), fun h => by rw [hri] at h; exact h.2⟩⟩
          clear hs hri
          go_wp2_with (first
            | (refine wpList_load_row rfl 24 (.tmp 1) rfl w.heap.size rfl 24 (evC x (.slice A x.f7.length cap)) (0, 0) _ BE.out Tryd.underlying24 rfl (by kernel_rfl) ?_)
            | (refine wpList_load_row rfl 24 (.tmp 3) rfl (w.heap.size + 1) rfl 24 (evC (onlyA x (atK k)) (.slice none 0 0)) (0, 0) _ BO.out Tryd.underlying24 rfl (by kernel_rfl) ?_)
            | (go_at_call 24; refine (same_yes x (⟨(onlyA x (atK k)).f0, (onlyA x (atK k)).f1, (onlyA x (atK k)).f2, (onlyA x (atK k)).f3, (onlyA x (atK k)).f4, (onlyA x (atK k)).f5, (onlyA x (atK k)).f6, []⟩ : S24) A none cap 0 _ (Kd.C_below HR.out HZ2.out) HCAP.out (Kd.C_nil _ _) (Nat.le_refl _) SM.out).mono ?_; rintro e wq ⟨rfl, hb⟩; have x7 : wq.cell? ⟨w.heap.size, 7, none⟩ = some (.slice A x.f7.length cap) := cell_keep BE.out hb rfl; have HB2 := Aside0.mk (below_then HZ2.out HZ2.out.size hb); clear HZ2 hb; have HZ2 := HB2; clear HB2)
            | (go_at_call 25; refine (rises_any x.f7 A cap _ (Kd.C_below HR.out HZ2.out) HCAP.out _ RI.out).mono ?_; rintro e wr ⟨rfl, hd⟩; have HB2 := Aside0.mk (below_then HZ2.out HZ2.out.size hd.below); clear HZ2 hd; have HZ2 := HB2; clear HB2))
          go_ret
          exact ⟨ret_int HRS.out.symm, HZ2.out⟩
      · have SM := Aside0.mk hs
        rw [HON.out] at SM
        have HRS : Aside0 (checkK k x = 180) := ⟨check_is k (by rw [HCL.out]; decide) h1 h2 x HKK.out HP.out false ⟨fun h => (Bool.noConfusion h), fun h => absurd h.1 hs⟩⟩
        clear hs
        go_wp2_with (first
          | (refine wpList_load_row rfl 24 (.tmp 1) rfl w.heap.size rfl 24 (evC x (.slice A x.f7.length cap)) (0, 0) _ BE.out Tryd.underlying24 rfl (by kernel_rfl) ?_)
          | (refine wpList_load_row rfl 24 (.tmp 3) rfl (w.heap.size + 1) rfl 24 (evC (onlyA x (atK k)) (.slice none 0 0)) (0, 0) _ BO.out Tryd.underlying24 rfl (by kernel_rfl) ?_)
          | (go_at_call 24; refine (same_no x (⟨(onlyA x (atK k)).f0, (onlyA x (atK k)).f1, (onlyA x (atK k)).f2, (onlyA x (atK k)).f3, (onlyA x (atK k)).f4, (onlyA x (atK k)).f5, (onlyA x (atK k)).f6, []⟩ : S24) A none cap 0 _ (Kd.C_below HR.out HZ2.out) HCAP.out (Kd.C_nil _ _) (Nat.le_refl _) SM.out).mono ?_; rintro e wq ⟨rfl, hb⟩; have x7 : wq.cell? ⟨w.heap.size, 7, none⟩ = some (.slice A x.f7.length cap) := cell_keep BE.out hb rfl; have HB2 := Aside0.mk (below_then HZ2.out HZ2.out.size hb); clear HZ2 hb; have HZ2 := HB2; clear HB2)
          | (go_at_call 25; refine (rises_any x.f7 A cap _ (Kd.C_below HR.out HZ2.out) HCAP.out _ RI.out).mono ?_; rintro e wr ⟨rfl, hd⟩; have HB2 := Aside0.mk (below_then HZ2.out HZ2.out.size hd.below); clear HZ2 hd; have HZ2 := HB2; clear HB2))
        go_ret
        exact ⟨ret_int HRS.out.symm, HZ2.out⟩
end Go.Proofs.YtiapfhlipoomaaaDoor.Given
end
section
namespace Go.Proofs.YtiapfhlipoomaaaDoor.Given
open Go.RowKit Go.Proofs.YtiapfhlipoomaaaDoorW.PrintWords Go.Proofs.YtiapfhlipoomaaaDoorW.PrintLast Go.Proofs.YtiapfhlipoomaaaDoorW.PrintMore Go.Proofs.YtiapfhlipoomaaaDoor.Print
set_option linter.unusedVariables false
set_option linter.unusedSimpArgs false
theorem fo_c2 (k : Nat) (h : clsK k = 2) : foK k = [1] := by
  unfold clsK at h
  split at h <;> first | rfl | cases h
theorem ok_c2 (k : Nat) (h : clsK k = 2) (x : S24) : okK k x = decide (0 ≤ x.f1 ∧ 1 ≤ x.f6 ∧ x.f6 < ((wsK k).length : Int) ∧ x.f2 = 0 ∧ x.f3 = 0 ∧ x.f4 = 0 ∧ x.f5 = 0 ∧ x.f7 = []) := by
  unfold clsK at h
  split at h <;> first | rfl | cases h
set_option maxRecDepth 100000 in
set_option maxHeartbeats 8000000 in
theorem check_c2_neg (k : Nat) (h1 : 1 ≤ k) (h2 : k ≤ 11) (hc : clsK k = 2) (x : S24) (hk : x.f0 = k) (A : Option Addr) (cap : Nat) (w : World) (hr : Kd.C (Kd.int .i64) w A x.f7.length x.f7) (hcap : x.f7.length ≤ cap) (hn : x.f1 < 0) :
    Calls Tryd.prog 10 #[evV x A cap] w fun e w' => e = .returned (.int .i64 180) ∧ Below w.heap.size w w' := by
  have hu24 := Tryd.underlying24
  have hu48 := Tryd.underlying48
  have hu46 := Tryd.underlying46
  have HR := Aside0.mk hr
  have HCAP := Aside0.mk hcap
  have HCL := Aside0.mk hc
  have HKK := Aside0.mk hk
  have hfo := fo_c2 k hc
  have HFO := Aside0.mk hfo
  have hwl := ws_len2 k
  have T1 := Aside0.mk True.intro
  clear hr hcap hc hk hfo
  have dn : decide (x.f1 < 0) = true := decide_eq_true hn
  clear hn
  go_enter Tryd.func10, Tryd.ntmps10
  go_upto_region 6 with (first
    | (go_at_call 23; clear T1; refine (form_c2 k h1 h2 HCL.out _ x (.slice A x.f7.length cap) _ HKK.out (hp_lt _ _ _ _ (heap_alloc_new _ _))).mono ?_; rintro e w1 ⟨_, bW, rfl, ⟨AF, rfl, hF⟩, hW, hb⟩; have BE := Aside0.mk (blk_below (hp_lt _ _ _ _ (heap_alloc_new w (.cells (evC x (.slice A x.f7.length cap)) 24))) hb); have BO := Aside0.mk (blk_below (hp_new _ (.cells (evC ⟨x.f0, 0, 0, 0, 0, 0, 0, []⟩ (.slice none 0 0)) 24) (w.heap.size + 1) (by rw [size_alloc])) hb); have BW := Aside0.mk hW; have FF := Aside0.mk hF; have HZ := Aside0.mk ((bel2 w (.cells (evC x (.slice A x.f7.length cap)) 24) (.cells (evC ⟨x.f0, 0, 0, 0, 0, 0, 0, []⟩ (.slice none 0 0)) 24)).trans (hb.mono (by rw [size_alloc, size_alloc]; omega))); clear hW hF hb)
    | (go_at_call 23; refine (form_c2 k h1 h2 HCL.out _ (⟨x.f0, 0, 0, 0, 0, 0, 0, []⟩ : S24) (.slice none 0 0) _ HKK.out (hp_lt _ _ _ _ BO.out)).mono ?_; rintro e w2 ⟨_, bX, rfl, ⟨AG, rfl, hG⟩, hX, hb⟩; have BF := Aside0.mk (blk_below (heap_alloc_new w1 (.cells #[.string (wordB k), .slice AF (foK k).length (foK k).length, .pointer none, .slice (some ⟨bW, 0, none⟩) (wsK k).length (wsK k).length, .pointer (some ⟨w.heap.size, 6, none⟩), .bool false] 48)) hb); have hb1 := (bel1 w1 (.cells #[.string (wordB k), .slice AF (foK k).length (foK k).length, .pointer none, .slice (some ⟨bW, 0, none⟩) (wsK k).length (wsK k).length, .pointer (some ⟨w.heap.size, 6, none⟩), .bool false] 48)).trans (hb.mono (by rw [size_alloc]; omega)); have n1_ := Aside0.mk (blk_below BE.out hb1); have n2_ := Aside0.mk (blk_below BO.out hb1); have n3_ := Aside0.mk (blk_below BW.out hb1); have n4_ := Aside0.mk (fun j o hj => by obtain ⟨ad, e1, e2, e3⟩ := FF.out j o hj; exact ⟨ad, e1, e2, pw_cell_below hb1 e3⟩ : ∀ (j o : Nat), (foK k)[j]? = some o → ∃ ad, AF = some ad ∧ ad.block ≠ w.heap.size ∧ w2.cell? (ad.add j) = some (.pointer (some ⟨w.heap.size, o, none⟩))); have n5_ := Aside0.mk (HZ.out.trans (hb1.mono HZ.out.size)); clear BE BO BW FF HZ hb1; have BE := n1_; have BO := n2_; have BW := n3_; have FF := n4_; have HZ := n5_; have GG := Aside0.mk hG; clear n1_ n2_ n3_ n4_ n5_ hG hX hb))
  have BG := Aside0.mk (heap_alloc_new w2 (.cells #[.string (wordB k), .slice AG (foK k).length (foK k).length, .pointer none, .slice (some ⟨bX, 0, none⟩) (wsK k).length (wsK k).length, .pointer (some ⟨w.heap.size + 1, 6, none⟩), .bool false] 48))
  have hb2 := bel1 w2 (.cells #[.string (wordB k), .slice AG (foK k).length (foK k).length, .pointer none, .slice (some ⟨bX, 0, none⟩) (wsK k).length (wsK k).length, .pointer (some ⟨w.heap.size + 1, 6, none⟩), .bool false] 48)
  have n1_ := Aside0.mk (blk_below BE.out hb2)
  have n2_ := Aside0.mk (blk_below BO.out hb2)
  have n3_ := Aside0.mk (blk_below BW.out hb2)
  have n6_ := Aside0.mk (blk_below BF.out hb2)
  have n5_ := Aside0.mk (HZ.out.trans (hb2.mono HZ.out.size))
  obtain ⟨ad1, hA1, hn1, hc1⟩ := FF.out 0 1 (by rw [HFO.out]; rfl)
  obtain ⟨ad2, hA2, hn2, hc2⟩ := GG.out 0 1 (by rw [HFO.out]; rfl)
  have x1 := Aside0.mk (pw_cell_below hb2 hc1)
  have x2 := Aside0.mk (pw_cell_below hb2 hc2)
  have N1 := Aside0.mk hn1
  have N2 := Aside0.mk hn2
  clear hb2 hc1 hc2 hn1 hn2 FF GG BE BO BW BF HZ
  generalize w1.heap.size = g4 at n6_ ⊢
  generalize w2.heap.size = g6 at BG ⊢
  generalize w2.alloc (.cells #[.string (wordB k), .slice AG (foK k).length (foK k).length, .pointer none, .slice (some ⟨bX, 0, none⟩) (wsK k).length (wsK k).length, .pointer (some ⟨w.heap.size + 1, 6, none⟩), .bool false] 48) = wz at *
  have BE := n1_
  have BO := n2_
  have BW := n3_
  have BF := n6_
  have HZ := n5_
  clear n1_ n2_ n3_ n5_ n6_
  subst hA1 hA2
  have y1 : wz.cell? ⟨g4, 1, none⟩ = some (.slice (some ad1) (foK k).length (foK k).length) := (blk_cell BF.out 1).trans rfl
  have y2 : wz.cell? ⟨g4, 2, none⟩ = some (.pointer none) := (blk_cell BF.out 2).trans rfl
  have y3 : wz.cell? ⟨g4, 3, none⟩ = some (.slice (some ⟨bW, 0, none⟩) (wsK k).length (wsK k).length) := (blk_cell BF.out 3).trans rfl
  have y4 : wz.cell? ⟨g4, 4, none⟩ = some (.pointer (some ⟨w.heap.size, 6, none⟩)) := (blk_cell BF.out 4).trans rfl
  have y5 : wz.cell? ⟨g4, 5, none⟩ = some (.bool false) := (blk_cell BF.out 5).trans rfl
  have z1 : wz.cell? ⟨g6, 1, none⟩ = some (.slice (some ad2) (foK k).length (foK k).length) := (blk_cell BG.out 1).trans rfl
  have z4 : wz.cell? ⟨g6, 4, none⟩ = some (.pointer (some ⟨w.heap.size + 1, 6, none⟩)) := (blk_cell BG.out 4).trans rfl
  rw [HFO.out] at y1 z1 ⊢
  have p1 : wz.cell? ad1 = some (.pointer (some ⟨w.heap.size, 1, none⟩)) := x1.out
  have p2 : wz.cell? ad2 = some (.pointer (some ⟨w.heap.size + 1, 1, none⟩)) := x2.out
  have e1 : wz.cell? ⟨w.heap.size, 1, none⟩ = some (.int .i64 x.f1) := (blk_cell BE.out 1).trans rfl
  have e6 : wz.cell? ⟨w.heap.size, 6, none⟩ = some (.int .i64 x.f6) := (blk_cell BE.out 6).trans rfl
  have o1 : wz.cell? ⟨w.heap.size + 1, 1, none⟩ = some (.int .i64 0) := (blk_cell BO.out 1).trans rfl
  have q1 : wz.frozen? ⟨w.heap.size + 1, 1, none⟩ = false := Lib.frozen_of_heap BO.out 1
  go_wp2_with (fail)
  refine wp_loop_rounds 2 ?_
  rw [rounds_succ]
  go_wp2_with (fail)
  go_ret
  exact ⟨rfl, HZ.out⟩
set_option maxRecDepth 100000 in
set_option maxHeartbeats 8000000 in
theorem check_c2_lo (k : Nat) (h1 : 1 ≤ k) (h2 : k ≤ 11) (hc : clsK k = 2) (x : S24) (hk : x.f0 = k) (A : Option Addr) (cap : Nat) (w : World) (hr : Kd.C (Kd.int .i64) w A x.f7.length x.f7) (hcap : x.f7.length ≤ cap) (hn : ¬ x.f1 < 0) (hm : x.f6 < 1) :
    Calls Tryd.prog 10 #[evV x A cap] w fun e w' => e = .returned (.int .i64 180) ∧ Below w.heap.size w w' := by
  have hu24 := Tryd.underlying24
  have hu48 := Tryd.underlying48
  have hu46 := Tryd.underlying46
  have HR := Aside0.mk hr
  have HCAP := Aside0.mk hcap
  have HCL := Aside0.mk hc
  have HKK := Aside0.mk hk
  have hfo := fo_c2 k hc
  have HFO := Aside0.mk hfo
  have hwl := ws_len2 k
  have T1 := Aside0.mk True.intro
  clear hr hcap hc hk hfo
  have dn : decide (x.f1 < 0) = false := decide_eq_false hn
  have d6 : decide (x.f6 < 1) = true := decide_eq_true hm
  clear hn hm
  go_enter Tryd.func10, Tryd.ntmps10
  go_upto_region 6 with (first
    | (go_at_call 23; clear T1; refine (form_c2 k h1 h2 HCL.out _ x (.slice A x.f7.length cap) _ HKK.out (hp_lt _ _ _ _ (heap_alloc_new _ _))).mono ?_; rintro e w1 ⟨_, bW, rfl, ⟨AF, rfl, hF⟩, hW, hb⟩; have BE := Aside0.mk (blk_below (hp_lt _ _ _ _ (heap_alloc_new w (.cells (evC x (.slice A x.f7.length cap)) 24))) hb); have BO := Aside0.mk (blk_below (hp_new _ (.cells (evC ⟨x.f0, 0, 0, 0, 0, 0, 0, []⟩ (.slice none 0 0)) 24) (w.heap.size + 1) (by rw [size_alloc])) hb); have BW := Aside0.mk hW; have FF := Aside0.mk hF; have HZ := Aside0.mk ((bel2 w (.cells (evC x (.slice A x.f7.length cap)) 24) (.cells (evC ⟨x.f0, 0, 0, 0, 0, 0, 0, []⟩ (.slice none 0 0)) 24)).trans (hb.mono (by rw [size_alloc, size_alloc]; omega))); clear hW hF hb)
    | (go_at_call 23; refine (form_c2 k h1 h2 HCL.out _ (⟨x.f0, 0, 0, 0, 0, 0, 0, []⟩ : S24) (.slice none 0 0) _ HKK.out (hp_lt _ _ _ _ BO.out)).mono ?_; rintro e w2 ⟨_, bX, rfl, ⟨AG, rfl, hG⟩, hX, hb⟩; have BF := Aside0.mk (blk_below (heap_alloc_new w1 (.cells #[.string (wordB k), .slice AF (foK k).length (foK k).length, .pointer none, .slice (some ⟨bW, 0, none⟩) (wsK k).length (wsK k).length, .pointer (some ⟨w.heap.size, 6, none⟩), .bool false] 48)) hb); have hb1 := (bel1 w1 (.cells #[.string (wordB k), .slice AF (foK k).length (foK k).length, .pointer none, .slice (some ⟨bW, 0, none⟩) (wsK k).length (wsK k).length, .pointer (some ⟨w.heap.size, 6, none⟩), .bool false] 48)).trans (hb.mono (by rw [size_alloc]; omega)); have n1_ := Aside0.mk (blk_below BE.out hb1); have n2_ := Aside0.mk (blk_below BO.out hb1); have n3_ := Aside0.mk (blk_below BW.out hb1); have n4_ := Aside0.mk (fun j o hj => by obtain ⟨ad, e1, e2, e3⟩ := FF.out j o hj; exact ⟨ad, e1, e2, pw_cell_below hb1 e3⟩ : ∀ (j o : Nat), (foK k)[j]? = some o → ∃ ad, AF = some ad ∧ ad.block ≠ w.heap.size ∧ w2.cell? (ad.add j) = some (.pointer (some ⟨w.heap.size, o, none⟩))); have n5_ := Aside0.mk (HZ.out.trans (hb1.mono HZ.out.size)); clear BE BO BW FF HZ hb1; have BE := n1_; have BO := n2_; have BW := n3_; have FF := n4_; have HZ := n5_; have GG := Aside0.mk hG; clear n1_ n2_ n3_ n4_ n5_ hG hX hb))
  have BG := Aside0.mk (heap_alloc_new w2 (.cells #[.string (wordB k), .slice AG (foK k).length (foK k).length, .pointer none, .slice (some ⟨bX, 0, none⟩) (wsK k).length (wsK k).length, .pointer (some ⟨w.heap.size + 1, 6, none⟩), .bool false] 48))
  have hb2 := bel1 w2 (.cells #[.string (wordB k), .slice AG (foK k).length (foK k).length, .pointer none, .slice (some ⟨bX, 0, none⟩) (wsK k).length (wsK k).length, .pointer (some ⟨w.heap.size + 1, 6, none⟩), .bool false] 48)
  have n1_ := Aside0.mk (blk_below BE.out hb2)
  have n2_ := Aside0.mk (blk_below BO.out hb2)
  have n3_ := Aside0.mk (blk_below BW.out hb2)
  have n6_ := Aside0.mk (blk_below BF.out hb2)
  have n5_ := Aside0.mk (HZ.out.trans (hb2.mono HZ.out.size))
  obtain ⟨ad1, hA1, hn1, hc1⟩ := FF.out 0 1 (by rw [HFO.out]; rfl)
  obtain ⟨ad2, hA2, hn2, hc2⟩ := GG.out 0 1 (by rw [HFO.out]; rfl)
  have x1 := Aside0.mk (pw_cell_below hb2 hc1)
  have x2 := Aside0.mk (pw_cell_below hb2 hc2)
  have N1 := Aside0.mk hn1
  have N2 := Aside0.mk hn2
  clear hb2 hc1 hc2 hn1 hn2 FF GG BE BO BW BF HZ
  generalize w1.heap.size = g4 at n6_ ⊢
  generalize w2.heap.size = g6 at BG ⊢
  generalize w2.alloc (.cells #[.string (wordB k), .slice AG (foK k).length (foK k).length, .pointer none, .slice (some ⟨bX, 0, none⟩) (wsK k).length (wsK k).length, .pointer (some ⟨w.heap.size + 1, 6, none⟩), .bool false] 48) = wz at *
  have BE := n1_
  have BO := n2_
  have BW := n3_
  have BF := n6_
  have HZ := n5_
  clear n1_ n2_ n3_ n5_ n6_
  subst hA1 hA2
  have y1 : wz.cell? ⟨g4, 1, none⟩ = some (.slice (some ad1) (foK k).length (foK k).length) := (blk_cell BF.out 1).trans rfl
  have y2 : wz.cell? ⟨g4, 2, none⟩ = some (.pointer none) := (blk_cell BF.out 2).trans rfl
  have y3 : wz.cell? ⟨g4, 3, none⟩ = some (.slice (some ⟨bW, 0, none⟩) (wsK k).length (wsK k).length) := (blk_cell BF.out 3).trans rfl
  have y4 : wz.cell? ⟨g4, 4, none⟩ = some (.pointer (some ⟨w.heap.size, 6, none⟩)) := (blk_cell BF.out 4).trans rfl
  have y5 : wz.cell? ⟨g4, 5, none⟩ = some (.bool false) := (blk_cell BF.out 5).trans rfl
  have z1 : wz.cell? ⟨g6, 1, none⟩ = some (.slice (some ad2) (foK k).length (foK k).length) := (blk_cell BG.out 1).trans rfl
  have z4 : wz.cell? ⟨g6, 4, none⟩ = some (.pointer (some ⟨w.heap.size + 1, 6, none⟩)) := (blk_cell BG.out 4).trans rfl
  rw [HFO.out] at y1 z1 ⊢
  have p1 : wz.cell? ad1 = some (.pointer (some ⟨w.heap.size, 1, none⟩)) := x1.out
  have p2 : wz.cell? ad2 = some (.pointer (some ⟨w.heap.size + 1, 1, none⟩)) := x2.out
  have e1 : wz.cell? ⟨w.heap.size, 1, none⟩ = some (.int .i64 x.f1) := (blk_cell BE.out 1).trans rfl
  have e6 : wz.cell? ⟨w.heap.size, 6, none⟩ = some (.int .i64 x.f6) := (blk_cell BE.out 6).trans rfl
  have o1 : wz.cell? ⟨w.heap.size + 1, 1, none⟩ = some (.int .i64 0) := (blk_cell BO.out 1).trans rfl
  have q1 : wz.frozen? ⟨w.heap.size + 1, 1, none⟩ = false := Lib.frozen_of_heap BO.out 1
  go_wp2_with (fail)
  refine wp_loop_rounds 2 ?_
  rw [rounds_succ]
  go_wp2_with (fail)
  go_region
  have NE4 := Aside0.mk (show g4 ≠ w.heap.size + 1 by rintro rfl; have h1 := BF.out.symm.trans BO.out; injection h1 with h1; injection h1 with _ h2 _; cases h2)
  have NE6 := Aside0.mk (show g6 ≠ w.heap.size + 1 by rintro rfl; have h1 := BG.out.symm.trans BO.out; injection h1 with h1; injection h1 with _ h2 _; cases h2)
  go_wp2_with (fail)
  clear y1 y2 y3 y4 y5 z1 z4 p1 p2 e1 e6 o1 q1
  have n1_ : Aside0 (((wz.setCell ⟨w.heap.size + 1, 1, none⟩ (.int .i64 x.f1)).drew).heap[w.heap.size]? = some (.cells (evC x (.slice A x.f7.length cap)) 24 (0, 0))) := ⟨hp_setne wz _ _ _ 1 _ (by omega) BE.out⟩
  have n2_ : Aside0 (((wz.setCell ⟨w.heap.size + 1, 1, none⟩ (.int .i64 x.f1)).drew).heap[w.heap.size + 1]? = some (.cells (evC ⟨x.f0, x.f1, 0, 0, 0, 0, 0, []⟩ (.slice none 0 0)) 24 (0, 0))) := ⟨blk_put (w := wz) BO.out 1 _ rfl⟩
  have n3_ : Aside0 (((wz.setCell ⟨w.heap.size + 1, 1, none⟩ (.int .i64 x.f1)).drew).heap[g4]? = some (.cells #[.string (wordB k), .slice (some ad1) (foK k).length (foK k).length, .pointer none, .slice (some ⟨bW, 0, none⟩) (wsK k).length (wsK k).length, .pointer (some ⟨w.heap.size, 6, none⟩), .bool false] 48 (0, 0))) := ⟨hp_setne wz _ _ _ 1 _ NE4.out BF.out⟩
  have n4_ : Aside0 (((wz.setCell ⟨w.heap.size + 1, 1, none⟩ (.int .i64 x.f1)).drew).heap[g6]? = some (.cells #[.string (wordB k), .slice (some ad2) (foK k).length (foK k).length, .pointer none, .slice (some ⟨bX, 0, none⟩) (wsK k).length (wsK k).length, .pointer (some ⟨w.heap.size + 1, 6, none⟩), .bool false] 48 (0, 0))) := ⟨hp_setne wz _ _ _ 1 _ NE6.out BG.out⟩
  have n5_ : Aside0 (Below w.heap.size w ((wz.setCell ⟨w.heap.size + 1, 1, none⟩ (.int .i64 x.f1)).drew)) := ⟨below_drew (Below.setCell HZ.out (p := ⟨w.heap.size + 1, 1, none⟩) (Nat.le_succ _) _)⟩
  clear BE BO BF BG HZ
  generalize (wz.setCell ⟨w.heap.size + 1, 1, none⟩ (.int .i64 x.f1)).drew = wy at n1_ n2_ n3_ n4_ n5_ ⊢
  have BE := n1_
  have BO := n2_
  have BF := n3_
  have BG := n4_
  have HZ := n5_
  clear n1_ n2_ n3_ n4_ n5_
  have y2 : wy.cell? ⟨g4, 2, none⟩ = some (.pointer none) := (blk_cell BF.out 2).trans rfl
  have y3 : wy.cell? ⟨g4, 3, none⟩ = some (.slice (some ⟨bW, 0, none⟩) (wsK k).length (wsK k).length) := (blk_cell BF.out 3).trans rfl
  have y4 : wy.cell? ⟨g4, 4, none⟩ = some (.pointer (some ⟨w.heap.size, 6, none⟩)) := (blk_cell BF.out 4).trans rfl
  have y5 : wy.cell? ⟨g4, 5, none⟩ = some (.bool false) := (blk_cell BF.out 5).trans rfl
  have z4 : wy.cell? ⟨g6, 4, none⟩ = some (.pointer (some ⟨w.heap.size + 1, 6, none⟩)) := (blk_cell BG.out 4).trans rfl
  have e6 : wy.cell? ⟨w.heap.size, 6, none⟩ = some (.int .i64 x.f6) := (blk_cell BE.out 6).trans rfl
  have o6 : wy.cell? ⟨w.heap.size + 1, 6, none⟩ = some (.int .i64 0) := (blk_cell BO.out 6).trans rfl
  have q6 : wy.frozen? ⟨w.heap.size + 1, 6, none⟩ = false := Lib.frozen_of_heap BO.out 6
  rw [rounds_succ]
  go_wp2_with (fail)
  go_quiet (fail)
  all_goals go_wp2_with (fail)
  all_goals go_ret
  all_goals exact ⟨rfl, pw_below_drewN HZ.out _⟩
set_option maxRecDepth 100000 in
set_option maxHeartbeats 8000000 in
theorem check_c2_hi (k : Nat) (h1 : 1 ≤ k) (h2 : k ≤ 11) (hc : clsK k = 2) (x : S24) (hk : x.f0 = k) (A : Option Addr) (cap : Nat) (w : World) (hr : Kd.C (Kd.int .i64) w A x.f7.length x.f7) (hcap : x.f7.length ≤ cap) (hn : ¬ x.f1 < 0) (hm : ¬ x.f6 < 1) (hw : ((wsK k).length : Int) ≤ x.f6) :
    Calls Tryd.prog 10 #[evV x A cap] w fun e w' => e = .returned (.int .i64 180) ∧ Below w.heap.size w w' := by
  have hu24 := Tryd.underlying24
  have hu48 := Tryd.underlying48
  have hu46 := Tryd.underlying46
  have HR := Aside0.mk hr
  have HCAP := Aside0.mk hcap
  have HCL := Aside0.mk hc
  have HKK := Aside0.mk hk
  have hfo := fo_c2 k hc
  have HFO := Aside0.mk hfo
  have hwl := ws_len2 k
  have T1 := Aside0.mk True.intro
  clear hr hcap hc hk hfo
  have dn : decide (x.f1 < 0) = false := decide_eq_false hn
  have d6 : decide (x.f6 < 1) = false := decide_eq_false hm
  have d7 : decide (((wsK k).length : Int) ≤ x.f6) = true := decide_eq_true hw
  clear hn hm hw
  go_enter Tryd.func10, Tryd.ntmps10
  go_upto_region 6 with (first
    | (go_at_call 23; clear T1; refine (form_c2 k h1 h2 HCL.out _ x (.slice A x.f7.length cap) _ HKK.out (hp_lt _ _ _ _ (heap_alloc_new _ _))).mono ?_; rintro e w1 ⟨_, bW, rfl, ⟨AF, rfl, hF⟩, hW, hb⟩; have BE := Aside0.mk (blk_below (hp_lt _ _ _ _ (heap_alloc_new w (.cells (evC x (.slice A x.f7.length cap)) 24))) hb); have BO := Aside0.mk (blk_below (hp_new _ (.cells (evC ⟨x.f0, 0, 0, 0, 0, 0, 0, []⟩ (.slice none 0 0)) 24) (w.heap.size + 1) (by rw [size_alloc])) hb); have BW := Aside0.mk hW; have FF := Aside0.mk hF; have HZ := Aside0.mk ((bel2 w (.cells (evC x (.slice A x.f7.length cap)) 24) (.cells (evC ⟨x.f0, 0, 0, 0, 0, 0, 0, []⟩ (.slice none 0 0)) 24)).trans (hb.mono (by rw [size_alloc, size_alloc]; omega))); clear hW hF hb)
    | (go_at_call 23; refine (form_c2 k h1 h2 HCL.out _ (⟨x.f0, 0, 0, 0, 0, 0, 0, []⟩ : S24) (.slice none 0 0) _ HKK.out (hp_lt _ _ _ _ BO.out)).mono ?_; rintro e w2 ⟨_, bX, rfl, ⟨AG, rfl, hG⟩, hX, hb⟩; have BF := Aside0.mk (blk_below (heap_alloc_new w1 (.cells #[.string (wordB k), .slice AF (foK k).length (foK k).length, .pointer none, .slice (some ⟨bW, 0, none⟩) (wsK k).length (wsK k).length, .pointer (some ⟨w.heap.size, 6, none⟩), .bool false] 48)) hb); have hb1 := (bel1 w1 (.cells #[.string (wordB k), .slice AF (foK k).length (foK k).length, .pointer none, .slice (some ⟨bW, 0, none⟩) (wsK k).length (wsK k).length, .pointer (some ⟨w.heap.size, 6, none⟩), .bool false] 48)).trans (hb.mono (by rw [size_alloc]; omega)); have n1_ := Aside0.mk (blk_below BE.out hb1); have n2_ := Aside0.mk (blk_below BO.out hb1); have n3_ := Aside0.mk (blk_below BW.out hb1); have n4_ := Aside0.mk (fun j o hj => by obtain ⟨ad, e1, e2, e3⟩ := FF.out j o hj; exact ⟨ad, e1, e2, pw_cell_below hb1 e3⟩ : ∀ (j o : Nat), (foK k)[j]? = some o → ∃ ad, AF = some ad ∧ ad.block ≠ w.heap.size ∧ w2.cell? (ad.add j) = some (.pointer (some ⟨w.heap.size, o, none⟩))); have n5_ := Aside0.mk (HZ.out.trans (hb1.mono HZ.out.size)); clear BE BO BW FF HZ hb1; have BE := n1_; have BO := n2_; have BW := n3_; have FF := n4_; have HZ := n5_; have GG := Aside0.mk hG; clear n1_ n2_ n3_ n4_ n5_ hG hX hb))
  have BG := Aside0.mk (heap_alloc_new w2 (.cells #[.string (wordB k), .slice AG (foK k).length (foK k).length, .pointer none, .slice (some ⟨bX, 0, none⟩) (wsK k).length (wsK k).length, .pointer (some ⟨w.heap.size + 1, 6, none⟩), .bool false] 48))
  have hb2 := bel1 w2 (.cells #[.string (wordB k), .slice AG (foK k).length (foK k).length, .pointer none, .slice (some ⟨bX, 0, none⟩) (wsK k).length (wsK k).length, .pointer (some ⟨w.heap.size + 1, 6, none⟩), .bool false] 48)
  have n1_ := Aside0.mk (blk_below BE.out hb2)
  have n2_ := Aside0.mk (blk_below BO.out hb2)
  have n3_ := Aside0.mk (blk_below BW.out hb2)
  have n6_ := Aside0.mk (blk_below BF.out hb2)
  have n5_ := Aside0.mk (HZ.out.trans (hb2.mono HZ.out.size))
  obtain ⟨ad1, hA1, hn1, hc1⟩ := FF.out 0 1 (by rw [HFO.out]; rfl)
  obtain ⟨ad2, hA2, hn2, hc2⟩ := GG.out 0 1 (by rw [HFO.out]; rfl)
  have x1 := Aside0.mk (pw_cell_below hb2 hc1)
  have x2 := Aside0.mk (pw_cell_below hb2 hc2)
  have N1 := Aside0.mk hn1
  have N2 := Aside0.mk hn2
  clear hb2 hc1 hc2 hn1 hn2 FF GG BE BO BW BF HZ
  generalize w1.heap.size = g4 at n6_ ⊢
  generalize w2.heap.size = g6 at BG ⊢
  generalize w2.alloc (.cells #[.string (wordB k), .slice AG (foK k).length (foK k).length, .pointer none, .slice (some ⟨bX, 0, none⟩) (wsK k).length (wsK k).length, .pointer (some ⟨w.heap.size + 1, 6, none⟩), .bool false] 48) = wz at *
  have BE := n1_
  have BO := n2_
  have BW := n3_
  have BF := n6_
  have HZ := n5_
  clear n1_ n2_ n3_ n5_ n6_
  subst hA1 hA2
  have y1 : wz.cell? ⟨g4, 1, none⟩ = some (.slice (some ad1) (foK k).length (foK k).length) := (blk_cell BF.out 1).trans rfl
  have y2 : wz.cell? ⟨g4, 2, none⟩ = some (.pointer none) := (blk_cell BF.out 2).trans rfl
  have y3 : wz.cell? ⟨g4, 3, none⟩ = some (.slice (some ⟨bW, 0, none⟩) (wsK k).length (wsK k).length) := (blk_cell BF.out 3).trans rfl
  have y4 : wz.cell? ⟨g4, 4, none⟩ = some (.pointer (some ⟨w.heap.size, 6, none⟩)) := (blk_cell BF.out 4).trans rfl
  have y5 : wz.cell? ⟨g4, 5, none⟩ = some (.bool false) := (blk_cell BF.out 5).trans rfl
  have z1 : wz.cell? ⟨g6, 1, none⟩ = some (.slice (some ad2) (foK k).length (foK k).length) := (blk_cell BG.out 1).trans rfl
  have z4 : wz.cell? ⟨g6, 4, none⟩ = some (.pointer (some ⟨w.heap.size + 1, 6, none⟩)) := (blk_cell BG.out 4).trans rfl
  rw [HFO.out] at y1 z1 ⊢
  have p1 : wz.cell? ad1 = some (.pointer (some ⟨w.heap.size, 1, none⟩)) := x1.out
  have p2 : wz.cell? ad2 = some (.pointer (some ⟨w.heap.size + 1, 1, none⟩)) := x2.out
  have e1 : wz.cell? ⟨w.heap.size, 1, none⟩ = some (.int .i64 x.f1) := (blk_cell BE.out 1).trans rfl
  have e6 : wz.cell? ⟨w.heap.size, 6, none⟩ = some (.int .i64 x.f6) := (blk_cell BE.out 6).trans rfl
  have o1 : wz.cell? ⟨w.heap.size + 1, 1, none⟩ = some (.int .i64 0) := (blk_cell BO.out 1).trans rfl
  have q1 : wz.frozen? ⟨w.heap.size + 1, 1, none⟩ = false := Lib.frozen_of_heap BO.out 1
  go_wp2_with (fail)
  refine wp_loop_rounds 2 ?_
  rw [rounds_succ]
  go_wp2_with (fail)
  go_region
  have NE4 := Aside0.mk (show g4 ≠ w.heap.size + 1 by rintro rfl; have h1 := BF.out.symm.trans BO.out; injection h1 with h1; injection h1 with _ h2 _; cases h2)
  have NE6 := Aside0.mk (show g6 ≠ w.heap.size + 1 by rintro rfl; have h1 := BG.out.symm.trans BO.out; injection h1 with h1; injection h1 with _ h2 _; cases h2)
  go_wp2_with (fail)
  clear y1 y2 y3 y4 y5 z1 z4 p1 p2 e1 e6 o1 q1
  have n1_ : Aside0 (((wz.setCell ⟨w.heap.size + 1, 1, none⟩ (.int .i64 x.f1)).drew).heap[w.heap.size]? = some (.cells (evC x (.slice A x.f7.length cap)) 24 (0, 0))) := ⟨hp_setne wz _ _ _ 1 _ (by omega) BE.out⟩
  have n2_ : Aside0 (((wz.setCell ⟨w.heap.size + 1, 1, none⟩ (.int .i64 x.f1)).drew).heap[w.heap.size + 1]? = some (.cells (evC ⟨x.f0, x.f1, 0, 0, 0, 0, 0, []⟩ (.slice none 0 0)) 24 (0, 0))) := ⟨blk_put (w := wz) BO.out 1 _ rfl⟩
  have n3_ : Aside0 (((wz.setCell ⟨w.heap.size + 1, 1, none⟩ (.int .i64 x.f1)).drew).heap[g4]? = some (.cells #[.string (wordB k), .slice (some ad1) (foK k).length (foK k).length, .pointer none, .slice (some ⟨bW, 0, none⟩) (wsK k).length (wsK k).length, .pointer (some ⟨w.heap.size, 6, none⟩), .bool false] 48 (0, 0))) := ⟨hp_setne wz _ _ _ 1 _ NE4.out BF.out⟩
  have n4_ : Aside0 (((wz.setCell ⟨w.heap.size + 1, 1, none⟩ (.int .i64 x.f1)).drew).heap[g6]? = some (.cells #[.string (wordB k), .slice (some ad2) (foK k).length (foK k).length, .pointer none, .slice (some ⟨bX, 0, none⟩) (wsK k).length (wsK k).length, .pointer (some ⟨w.heap.size + 1, 6, none⟩), .bool false] 48 (0, 0))) := ⟨hp_setne wz _ _ _ 1 _ NE6.out BG.out⟩
  have n5_ : Aside0 (Below w.heap.size w ((wz.setCell ⟨w.heap.size + 1, 1, none⟩ (.int .i64 x.f1)).drew)) := ⟨below_drew (Below.setCell HZ.out (p := ⟨w.heap.size + 1, 1, none⟩) (Nat.le_succ _) _)⟩
  clear BE BO BF BG HZ
  generalize (wz.setCell ⟨w.heap.size + 1, 1, none⟩ (.int .i64 x.f1)).drew = wy at n1_ n2_ n3_ n4_ n5_ ⊢
  have BE := n1_
  have BO := n2_
  have BF := n3_
  have BG := n4_
  have HZ := n5_
  clear n1_ n2_ n3_ n4_ n5_
  have y2 : wy.cell? ⟨g4, 2, none⟩ = some (.pointer none) := (blk_cell BF.out 2).trans rfl
  have y3 : wy.cell? ⟨g4, 3, none⟩ = some (.slice (some ⟨bW, 0, none⟩) (wsK k).length (wsK k).length) := (blk_cell BF.out 3).trans rfl
  have y4 : wy.cell? ⟨g4, 4, none⟩ = some (.pointer (some ⟨w.heap.size, 6, none⟩)) := (blk_cell BF.out 4).trans rfl
  have y5 : wy.cell? ⟨g4, 5, none⟩ = some (.bool false) := (blk_cell BF.out 5).trans rfl
  have z4 : wy.cell? ⟨g6, 4, none⟩ = some (.pointer (some ⟨w.heap.size + 1, 6, none⟩)) := (blk_cell BG.out 4).trans rfl
  have e6 : wy.cell? ⟨w.heap.size, 6, none⟩ = some (.int .i64 x.f6) := (blk_cell BE.out 6).trans rfl
  have o6 : wy.cell? ⟨w.heap.size + 1, 6, none⟩ = some (.int .i64 0) := (blk_cell BO.out 6).trans rfl
  have q6 : wy.frozen? ⟨w.heap.size + 1, 6, none⟩ = false := Lib.frozen_of_heap BO.out 6
  rw [rounds_succ]
  go_wp2_with (fail)
  go_quiet (fail)
  all_goals go_wp2_with (fail)
  all_goals go_ret
  all_goals exact ⟨rfl, pw_below_drewN HZ.out _⟩
set_option maxRecDepth 100000 in
set_option maxHeartbeats 8000000 in
theorem check_c2_yes (k : Nat) (h1 : 1 ≤ k) (h2 : k ≤ 11) (hc : clsK k = 2) (x : S24) (hk : x.f0 = k) (A : Option Addr) (cap : Nat) (w : World) (hr : Kd.C (Kd.int .i64) w A x.f7.length x.f7) (hcap : x.f7.length ≤ cap) (hn : ¬ x.f1 < 0) (hm : ¬ x.f6 < 1) (hw : ¬ ((wsK k).length : Int) ≤ x.f6) (hs : sameP x ⟨x.f0, x.f1, 0, 0, 0, 0, x.f6, []⟩) :
    Calls Tryd.prog 10 #[evV x A cap] w fun e w' => e = .returned (.int .i64 0) ∧ Below w.heap.size w w' := by
  have hu24 := Tryd.underlying24
  have hu48 := Tryd.underlying48
  have hu46 := Tryd.underlying46
  have HR := Aside0.mk hr
  have HCAP := Aside0.mk hcap
  have HCL := Aside0.mk hc
  have HKK := Aside0.mk hk
  have hfo := fo_c2 k hc
  have HFO := Aside0.mk hfo
  have hwl := ws_len2 k
  have T1 := Aside0.mk True.intro
  clear hr hcap hc hk hfo
  have dn : decide (x.f1 < 0) = false := decide_eq_false hn
  have d6 : decide (x.f6 < 1) = false := decide_eq_false hm
  have d7 : decide (((wsK k).length : Int) ≤ x.f6) = false := decide_eq_false hw
  have SM := Aside0.mk hs
  have RI : Aside0 (risesB x.f7 = true) := ⟨by rw [show x.f7 = [] from hs.2.2.2.2.2.2.2]; rfl⟩
  clear hn hm hw hs
  go_enter Tryd.func10, Tryd.ntmps10
  go_upto_region 6 with (first
    | (go_at_call 23; clear T1; refine (form_c2 k h1 h2 HCL.out _ x (.slice A x.f7.length cap) _ HKK.out (hp_lt _ _ _ _ (heap_alloc_new _ _))).mono ?_; rintro e w1 ⟨_, bW, rfl, ⟨AF, rfl, hF⟩, hW, hb⟩; have BE := Aside0.mk (blk_below (hp_lt _ _ _ _ (heap_alloc_new w (.cells (evC x (.slice A x.f7.length cap)) 24))) hb); have BO := Aside0.mk (blk_below (hp_new _ (.cells (evC ⟨x.f0, 0, 0, 0, 0, 0, 0, []⟩ (.slice none 0 0)) 24) (w.heap.size + 1) (by rw [size_alloc])) hb); have BW := Aside0.mk hW; have FF := Aside0.mk hF; have HZ := Aside0.mk ((bel2 w (.cells (evC x (.slice A x.f7.length cap)) 24) (.cells (evC ⟨x.f0, 0, 0, 0, 0, 0, 0, []⟩ (.slice none 0 0)) 24)).trans (hb.mono (by rw [size_alloc, size_alloc]; omega))); clear hW hF hb)
    | (go_at_call 23; refine (form_c2 k h1 h2 HCL.out _ (⟨x.f0, 0, 0, 0, 0, 0, 0, []⟩ : S24) (.slice none 0 0) _ HKK.out (hp_lt _ _ _ _ BO.out)).mono ?_; rintro e w2 ⟨_, bX, rfl, ⟨AG, rfl, hG⟩, hX, hb⟩; have BF := Aside0.mk (blk_below (heap_alloc_new w1 (.cells #[.string (wordB k), .slice AF (foK k).length (foK k).length, .pointer none, .slice (some ⟨bW, 0, none⟩) (wsK k).length (wsK k).length, .pointer (some ⟨w.heap.size, 6, none⟩), .bool false] 48)) hb); have hb1 := (bel1 w1 (.cells #[.string (wordB k), .slice AF (foK k).length (foK k).length, .pointer none, .slice (some ⟨bW, 0, none⟩) (wsK k).length (wsK k).length, .pointer (some ⟨w.heap.size, 6, none⟩), .bool false] 48)).trans (hb.mono (by rw [size_alloc]; omega)); have n1_ := Aside0.mk (blk_below BE.out hb1); have n2_ := Aside0.mk (blk_below BO.out hb1); have n3_ := Aside0.mk (blk_below BW.out hb1); have n4_ := Aside0.mk (fun j o hj => by obtain ⟨ad, e1, e2, e3⟩ := FF.out j o hj; exact ⟨ad, e1, e2, pw_cell_below hb1 e3⟩ : ∀ (j o : Nat), (foK k)[j]? = some o → ∃ ad, AF = some ad ∧ ad.block ≠ w.heap.size ∧ w2.cell? (ad.add j) = some (.pointer (some ⟨w.heap.size, o, none⟩))); have n5_ := Aside0.mk (HZ.out.trans (hb1.mono HZ.out.size)); clear BE BO BW FF HZ hb1; have BE := n1_; have BO := n2_; have BW := n3_; have FF := n4_; have HZ := n5_; have GG := Aside0.mk hG; clear n1_ n2_ n3_ n4_ n5_ hG hX hb))
  have BG := Aside0.mk (heap_alloc_new w2 (.cells #[.string (wordB k), .slice AG (foK k).length (foK k).length, .pointer none, .slice (some ⟨bX, 0, none⟩) (wsK k).length (wsK k).length, .pointer (some ⟨w.heap.size + 1, 6, none⟩), .bool false] 48))
  have hb2 := bel1 w2 (.cells #[.string (wordB k), .slice AG (foK k).length (foK k).length, .pointer none, .slice (some ⟨bX, 0, none⟩) (wsK k).length (wsK k).length, .pointer (some ⟨w.heap.size + 1, 6, none⟩), .bool false] 48)
  have n1_ := Aside0.mk (blk_below BE.out hb2)
  have n2_ := Aside0.mk (blk_below BO.out hb2)
  have n3_ := Aside0.mk (blk_below BW.out hb2)
  have n6_ := Aside0.mk (blk_below BF.out hb2)
  have n5_ := Aside0.mk (HZ.out.trans (hb2.mono HZ.out.size))
  obtain ⟨ad1, hA1, hn1, hc1⟩ := FF.out 0 1 (by rw [HFO.out]; rfl)
  obtain ⟨ad2, hA2, hn2, hc2⟩ := GG.out 0 1 (by rw [HFO.out]; rfl)
  have x1 := Aside0.mk (pw_cell_below hb2 hc1)
  have x2 := Aside0.mk (pw_cell_below hb2 hc2)
  have N1 := Aside0.mk hn1
  have N2 := Aside0.mk hn2
  clear hb2 hc1 hc2 hn1 hn2 FF GG BE BO BW BF HZ
  generalize w1.heap.size = g4 at n6_ ⊢
  generalize w2.heap.size = g6 at BG ⊢
  generalize w2.alloc (.cells #[.string (wordB k), .slice AG (foK k).length (foK k).length, .pointer none, .slice (some ⟨bX, 0, none⟩) (wsK k).length (wsK k).length, .pointer (some ⟨w.heap.size + 1, 6, none⟩), .bool false] 48) = wz at *
  have BE := n1_
  have BO := n2_
  have BW := n3_
  have BF := n6_
  have HZ := n5_
  clear n1_ n2_ n3_ n5_ n6_
  subst hA1 hA2
  have y1 : wz.cell? ⟨g4, 1, none⟩ = some (.slice (some ad1) (foK k).length (foK k).length) := (blk_cell BF.out 1).trans rfl
  have y2 : wz.cell? ⟨g4, 2, none⟩ = some (.pointer none) := (blk_cell BF.out 2).trans rfl
  have y3 : wz.cell? ⟨g4, 3, none⟩ = some (.slice (some ⟨bW, 0, none⟩) (wsK k).length (wsK k).length) := (blk_cell BF.out 3).trans rfl
  have y4 : wz.cell? ⟨g4, 4, none⟩ = some (.pointer (some ⟨w.heap.size, 6, none⟩)) := (blk_cell BF.out 4).trans rfl
  have y5 : wz.cell? ⟨g4, 5, none⟩ = some (.bool false) := (blk_cell BF.out 5).trans rfl
  have z1 : wz.cell? ⟨g6, 1, none⟩ = some (.slice (some ad2) (foK k).length (foK k).length) := (blk_cell BG.out 1).trans rfl
  have z4 : wz.cell? ⟨g6, 4, none⟩ = some (.pointer (some ⟨w.heap.size + 1, 6, none⟩)) := (blk_cell BG.out 4).trans rfl
  rw [HFO.out] at y1 z1 ⊢
  have p1 : wz.cell? ad1 = some (.pointer (some ⟨w.heap.size, 1, none⟩)) := x1.out
  have p2 : wz.cell? ad2 = some (.pointer (some ⟨w.heap.size + 1, 1, none⟩)) := x2.out
  have e1 : wz.cell? ⟨w.heap.size, 1, none⟩ = some (.int .i64 x.f1) := (blk_cell BE.out 1).trans rfl
  have e6 : wz.cell? ⟨w.heap.size, 6, none⟩ = some (.int .i64 x.f6) := (blk_cell BE.out 6).trans rfl
  have o1 : wz.cell? ⟨w.heap.size + 1, 1, none⟩ = some (.int .i64 0) := (blk_cell BO.out 1).trans rfl
  have q1 : wz.frozen? ⟨w.heap.size + 1, 1, none⟩ = false := Lib.frozen_of_heap BO.out 1
  go_wp2_with (fail)
  refine wp_loop_rounds 2 ?_
  rw [rounds_succ]
  go_wp2_with (fail)
  go_region
  have NE4 := Aside0.mk (show g4 ≠ w.heap.size + 1 by rintro rfl; have h1 := BF.out.symm.trans BO.out; injection h1 with h1; injection h1 with _ h2 _; cases h2)
  have NE6 := Aside0.mk (show g6 ≠ w.heap.size + 1 by rintro rfl; have h1 := BG.out.symm.trans BO.out; injection h1 with h1; injection h1 with _ h2 _; cases h2)
  go_wp2_with (fail)
  clear y1 y2 y3 y4 y5 z1 z4 p1 p2 e1 e6 o1 q1
  have n1_ : Aside0 (((wz.setCell ⟨w.heap.size + 1, 1, none⟩ (.int .i64 x.f1)).drew).heap[w.heap.size]? = some (.cells (evC x (.slice A x.f7.length cap)) 24 (0, 0))) := ⟨hp_setne wz _ _ _ 1 _ (by omega) BE.out⟩
  have n2_ : Aside0 (((wz.setCell ⟨w.heap.size + 1, 1, none⟩ (.int .i64 x.f1)).drew).heap[w.heap.size + 1]? = some (.cells (evC ⟨x.f0, x.f1, 0, 0, 0, 0, 0, []⟩ (.slice none 0 0)) 24 (0, 0))) := ⟨blk_put (w := wz) BO.out 1 _ rfl⟩
  have n3_ : Aside0 (((wz.setCell ⟨w.heap.size + 1, 1, none⟩ (.int .i64 x.f1)).drew).heap[g4]? = some (.cells #[.string (wordB k), .slice (some ad1) (foK k).length (foK k).length, .pointer none, .slice (some ⟨bW, 0, none⟩) (wsK k).length (wsK k).length, .pointer (some ⟨w.heap.size, 6, none⟩), .bool false] 48 (0, 0))) := ⟨hp_setne wz _ _ _ 1 _ NE4.out BF.out⟩
  have n4_ : Aside0 (((wz.setCell ⟨w.heap.size + 1, 1, none⟩ (.int .i64 x.f1)).drew).heap[g6]? = some (.cells #[.string (wordB k), .slice (some ad2) (foK k).length (foK k).length, .pointer none, .slice (some ⟨bX, 0, none⟩) (wsK k).length (wsK k).length, .pointer (some ⟨w.heap.size + 1, 6, none⟩), .bool false] 48 (0, 0))) := ⟨hp_setne wz _ _ _ 1 _ NE6.out BG.out⟩
  have n5_ : Aside0 (Below w.heap.size w ((wz.setCell ⟨w.heap.size + 1, 1, none⟩ (.int .i64 x.f1)).drew)) := ⟨below_drew (Below.setCell HZ.out (p := ⟨w.heap.size + 1, 1, none⟩) (Nat.le_succ _) _)⟩
  clear BE BO BF BG HZ
  generalize (wz.setCell ⟨w.heap.size + 1, 1, none⟩ (.int .i64 x.f1)).drew = wy at n1_ n2_ n3_ n4_ n5_ ⊢
  have BE := n1_
  have BO := n2_
  have BF := n3_
  have BG := n4_
  have HZ := n5_
  clear n1_ n2_ n3_ n4_ n5_
  have y2 : wy.cell? ⟨g4, 2, none⟩ = some (.pointer none) := (blk_cell BF.out 2).trans rfl
  have y3 : wy.cell? ⟨g4, 3, none⟩ = some (.slice (some ⟨bW, 0, none⟩) (wsK k).length (wsK k).length) := (blk_cell BF.out 3).trans rfl
  have y4 : wy.cell? ⟨g4, 4, none⟩ = some (.pointer (some ⟨w.heap.size, 6, none⟩)) := (blk_cell BF.out 4).trans rfl
  have y5 : wy.cell? ⟨g4, 5, none⟩ = some (.bool false) := (blk_cell BF.out 5).trans rfl
  have z4 : wy.cell? ⟨g6, 4, none⟩ = some (.pointer (some ⟨w.heap.size + 1, 6, none⟩)) := (blk_cell BG.out 4).trans rfl
  have e6 : wy.cell? ⟨w.heap.size, 6, none⟩ = some (.int .i64 x.f6) := (blk_cell BE.out 6).trans rfl
  have o6 : wy.cell? ⟨w.heap.size + 1, 6, none⟩ = some (.int .i64 0) := (blk_cell BO.out 6).trans rfl
  have q6 : wy.frozen? ⟨w.heap.size + 1, 6, none⟩ = false := Lib.frozen_of_heap BO.out 6
  rw [rounds_succ]
  go_wp2_with (fail)
  go_quiet (fail)
  go_wp2_with (fail)
  have n1_ : Aside0 ((wy.drewN nq).heap[w.heap.size]? = some (.cells (evC x (.slice A x.f7.length cap)) 24 (0, 0))) := ⟨BE.out⟩
  have n2_ : Aside0 ((wy.drewN nq).heap[w.heap.size + 1]? = some (.cells (evC ⟨x.f0, x.f1, 0, 0, 0, 0, 0, []⟩ (.slice none 0 0)) 24 (0, 0))) := ⟨BO.out⟩
  have n3_ : Aside0 ((wy.drewN nq).heap[g4]? = some (.cells #[.string (wordB k), .slice (some ad1) (foK k).length (foK k).length, .pointer none, .slice (some ⟨bW, 0, none⟩) (wsK k).length (wsK k).length, .pointer (some ⟨w.heap.size, 6, none⟩), .bool false] 48 (0, 0))) := ⟨BF.out⟩
  have n4_ : Aside0 ((wy.drewN nq).heap[g6]? = some (.cells #[.string (wordB k), .slice (some ad2) (foK k).length (foK k).length, .pointer none, .slice (some ⟨bX, 0, none⟩) (wsK k).length (wsK k).length, .pointer (some ⟨w.heap.size + 1, 6, none⟩), .bool false] 48 (0, 0))) := ⟨BG.out⟩
  have n5_ : Aside0 (Below w.heap.size w (wy.drewN nq)) := ⟨pw_below_drewN HZ.out _⟩
  clear BE BO BF BG HZ
  generalize wy.drewN nq = wx at n1_ n2_ n3_ n4_ n5_ ⊢
  have BE := n1_
  have BO := n2_
  have BF := n3_
  have BG := n4_
  have HZ := n5_
  clear n1_ n2_ n3_ n4_ n5_
  clear y2 y3 y4 y5 z4 e6 o6 q6
  have y2 : wx.cell? ⟨g4, 2, none⟩ = some (.pointer none) := (blk_cell BF.out 2).trans rfl
  have y3 : wx.cell? ⟨g4, 3, none⟩ = some (.slice (some ⟨bW, 0, none⟩) (wsK k).length (wsK k).length) := (blk_cell BF.out 3).trans rfl
  have y4 : wx.cell? ⟨g4, 4, none⟩ = some (.pointer (some ⟨w.heap.size, 6, none⟩)) := (blk_cell BF.out 4).trans rfl
  have y5 : wx.cell? ⟨g4, 5, none⟩ = some (.bool false) := (blk_cell BF.out 5).trans rfl
  have z4 : wx.cell? ⟨g6, 4, none⟩ = some (.pointer (some ⟨w.heap.size + 1, 6, none⟩)) := (blk_cell BG.out 4).trans rfl
  have e6 : wx.cell? ⟨w.heap.size, 6, none⟩ = some (.int .i64 x.f6) := (blk_cell BE.out 6).trans rfl
  have o6 : wx.cell? ⟨w.heap.size + 1, 6, none⟩ = some (.int .i64 0) := (blk_cell BO.out 6).trans rfl
  have q6 : wx.frozen? ⟨w.heap.size + 1, 6, none⟩ = false := Lib.frozen_of_heap BO.out 6
  go_region
  clear y2 y3 y4 y5 z4 e6 o6 q6
  have n1_ : Aside0 (((wx.setCell ⟨w.heap.size + 1, 6, none⟩ (.int .i64 x.f6)).drew).heap[w.heap.size]? = some (.cells (evC x (.slice A x.f7.length cap)) 24 (0, 0))) := ⟨hp_setne wx _ _ _ 6 _ (by omega) BE.out⟩
  have n2_ : Aside0 (((wx.setCell ⟨w.heap.size + 1, 6, none⟩ (.int .i64 x.f6)).drew).heap[w.heap.size + 1]? = some (.cells (evC ⟨x.f0, x.f1, 0, 0, 0, 0, x.f6, []⟩ (.slice none 0 0)) 24 (0, 0))) := ⟨blk_put (w := wx) BO.out 6 _ rfl⟩
  have n3_ : Aside0 (((wx.setCell ⟨w.heap.size + 1, 6, none⟩ (.int .i64 x.f6)).drew).heap[g4]? = some (.cells #[.string (wordB k), .slice (some ad1) (foK k).length (foK k).length, .pointer none, .slice (some ⟨bW, 0, none⟩) (wsK k).length (wsK k).length, .pointer (some ⟨w.heap.size, 6, none⟩), .bool false] 48 (0, 0))) := ⟨hp_setne wx _ _ _ 6 _ NE4.out BF.out⟩
  have n4_ : Aside0 (((wx.setCell ⟨w.heap.size + 1, 6, none⟩ (.int .i64 x.f6)).drew).heap[g6]? = some (.cells #[.string (wordB k), .slice (some ad2) (foK k).length (foK k).length, .pointer none, .slice (some ⟨bX, 0, none⟩) (wsK k).length (wsK k).length, .pointer (some ⟨w.heap.size + 1, 6, none⟩), .bool false] 48 (0, 0))) := ⟨hp_setne wx _ _ _ 6 _ NE6.out BG.out⟩
  have n5_ : Aside0 (Below w.heap.size w ((wx.setCell ⟨w.heap.size + 1, 6, none⟩ (.int .i64 x.f6)).drew)) := ⟨below_drew (Below.setCell HZ.out (p := ⟨w.heap.size + 1, 6, none⟩) (Nat.le_succ _) _)⟩
  clear BE BO BF BG HZ
  generalize (wx.setCell ⟨w.heap.size + 1, 6, none⟩ (.int .i64 x.f6)).drew = wv at n1_ n2_ n3_ n4_ n5_ ⊢
  have BE := n1_
  have BO := n2_
  have BF := n3_
  have BG := n4_
  have HZ := n5_
  clear n1_ n2_ n3_ n4_ n5_
  have y5 : wv.cell? ⟨g4, 5, none⟩ = some (.bool false) := (blk_cell BF.out 5).trans rfl
  go_wp2_with (first
    | (refine wpList_load_row rfl 24 (.tmp 1) rfl w.heap.size rfl 24 (evC x (.slice A x.f7.length cap)) (0, 0) _ BE.out Tryd.underlying24 rfl (by kernel_rfl) ?_)
    | (refine wpList_load_row rfl 24 (.tmp 3) rfl (w.heap.size + 1) rfl 24 (evC ⟨x.f0, x.f1, 0, 0, 0, 0, x.f6, []⟩ (.slice none 0 0)) (0, 0) _ BO.out Tryd.underlying24 rfl (by kernel_rfl) ?_)
    | (go_at_call 24; refine (same_yes x (⟨x.f0, x.f1, 0, 0, 0, 0, x.f6, []⟩ : S24) A none cap 0 _ (Kd.C_below HR.out HZ.out) HCAP.out (Kd.C_nil _ _) (Nat.le_refl _) SM.out).mono ?_; rintro e wq ⟨rfl, hb⟩; have x7 : wq.cell? ⟨w.heap.size, 7, none⟩ = some (.slice A x.f7.length cap) := cell_keep BE.out hb rfl; have HB2 := Aside0.mk (below_then HZ.out HZ.out.size hb); clear HZ hb; have HZ := HB2; clear HB2)
    | (go_at_call 25; refine (rises_any x.f7 A cap _ (Kd.C_below HR.out HZ.out) HCAP.out _ RI.out).mono ?_; rintro e wr ⟨rfl, hd⟩; have HB2 := Aside0.mk (below_then HZ.out HZ.out.size hd.below); clear HZ hd; have HZ := HB2; clear HB2))
  go_ret
  exact ⟨rfl, HZ.out⟩
set_option maxRecDepth 100000 in
set_option maxHeartbeats 8000000 in
theorem check_c2_no (k : Nat) (h1 : 1 ≤ k) (h2 : k ≤ 11) (hc : clsK k = 2) (x : S24) (hk : x.f0 = k) (A : Option Addr) (cap : Nat) (w : World) (hr : Kd.C (Kd.int .i64) w A x.f7.length x.f7) (hcap : x.f7.length ≤ cap) (hn : ¬ x.f1 < 0) (hm : ¬ x.f6 < 1) (hw : ¬ ((wsK k).length : Int) ≤ x.f6) (hs : ¬ sameP x ⟨x.f0, x.f1, 0, 0, 0, 0, x.f6, []⟩) :
    Calls Tryd.prog 10 #[evV x A cap] w fun e w' => e = .returned (.int .i64 180) ∧ Below w.heap.size w w' := by
  have hu24 := Tryd.underlying24
  have hu48 := Tryd.underlying48
  have hu46 := Tryd.underlying46
  have HR := Aside0.mk hr
  have HCAP := Aside0.mk hcap
  have HCL := Aside0.mk hc
  have HKK := Aside0.mk hk
  have hfo := fo_c2 k hc
  have HFO := Aside0.mk hfo
  have hwl := ws_len2 k
  have T1 := Aside0.mk True.intro
  clear hr hcap hc hk hfo
  have dn : decide (x.f1 < 0) = false := decide_eq_false hn
  have d6 : decide (x.f6 < 1) = false := decide_eq_false hm
  have d7 : decide (((wsK k).length : Int) ≤ x.f6) = false := decide_eq_false hw
  have SM := Aside0.mk hs
  clear hn hm hw hs
  go_enter Tryd.func10, Tryd.ntmps10
  go_upto_region 6 with (first
    | (go_at_call 23; clear T1; refine (form_c2 k h1 h2 HCL.out _ x (.slice A x.f7.length cap) _ HKK.out (hp_lt _ _ _ _ (heap_alloc_new _ _))).mono ?_; rintro e w1 ⟨_, bW, rfl, ⟨AF, rfl, hF⟩, hW, hb⟩; have BE := Aside0.mk (blk_below (hp_lt _ _ _ _ (heap_alloc_new w (.cells (evC x (.slice A x.f7.length cap)) 24))) hb); have BO := Aside0.mk (blk_below (hp_new _ (.cells (evC ⟨x.f0, 0, 0, 0, 0, 0, 0, []⟩ (.slice none 0 0)) 24) (w.heap.size + 1) (by rw [size_alloc])) hb); have BW := Aside0.mk hW; have FF := Aside0.mk hF; have HZ := Aside0.mk ((bel2 w (.cells (evC x (.slice A x.f7.length cap)) 24) (.cells (evC ⟨x.f0, 0, 0, 0, 0, 0, 0, []⟩ (.slice none 0 0)) 24)).trans (hb.mono (by rw [size_alloc, size_alloc]; omega))); clear hW hF hb)
    | (go_at_call 23; refine (form_c2 k h1 h2 HCL.out _ (⟨x.f0, 0, 0, 0, 0, 0, 0, []⟩ : S24) (.slice none 0 0) _ HKK.out (hp_lt _ _ _ _ BO.out)).mono ?_; rintro e w2 ⟨_, bX, rfl, ⟨AG, rfl, hG⟩, hX, hb⟩; have BF := Aside0.mk (blk_below (heap_alloc_new w1 (.cells #[.string (wordB k), .slice AF (foK k).length (foK k).length, .pointer none, .slice (some ⟨bW, 0, none⟩) (wsK k).length (wsK k).length, .pointer (some ⟨w.heap.size, 6, none⟩), .bool false] 48)) hb); have hb1 := (bel1 w1 (.cells #[.string (wordB k), .slice AF (foK k).length (foK k).length, .pointer none, .slice (some ⟨bW, 0, none⟩) (wsK k).length (wsK k).length, .pointer (some ⟨w.heap.size, 6, none⟩), .bool false] 48)).trans (hb.mono (by rw [size_alloc]; omega)); have n1_ := Aside0.mk (blk_below BE.out hb1); have n2_ := Aside0.mk (blk_below BO.out hb1); have n3_ := Aside0.mk (blk_below BW.out hb1); have n4_ := Aside0.mk (fun j o hj => by obtain ⟨ad, e1, e2, e3⟩ := FF.out j o hj; exact ⟨ad, e1, e2, pw_cell_below hb1 e3⟩ : ∀ (j o : Nat), (foK k)[j]? = some o → ∃ ad, AF = some ad ∧ ad.block ≠ w.heap.size ∧ w2.cell? (ad.add j) = some (.pointer (some ⟨w.heap.size, o, none⟩))); have n5_ := Aside0.mk (HZ.out.trans (hb1.mono HZ.out.size)); clear BE BO BW FF HZ hb1; have BE := n1_; have BO := n2_; have BW := n3_; have FF := n4_; have HZ := n5_; have GG := Aside0.mk hG; clear n1_ n2_ n3_ n4_ n5_ hG hX hb))
  have BG := Aside0.mk (heap_alloc_new w2 (.cells #[.string (wordB k), .slice AG (foK k).length (foK k).length, .pointer none, .slice (some ⟨bX, 0, none⟩) (wsK k).length (wsK k).length, .pointer (some ⟨w.heap.size + 1, 6, none⟩), .bool false] 48))
  have hb2 := bel1 w2 (.cells #[.string (wordB k), .slice AG (foK k).length (foK k).length, .pointer none, .slice (some ⟨bX, 0, none⟩) (wsK k).length (wsK k).length, .pointer (some ⟨w.heap.size + 1, 6, none⟩), .bool false] 48)
  have n1_ := Aside0.mk (blk_below BE.out hb2)
  have n2_ := Aside0.mk (blk_below BO.out hb2)
  have n3_ := Aside0.mk (blk_below BW.out hb2)
  have n6_ := Aside0.mk (blk_below BF.out hb2)
  have n5_ := Aside0.mk (HZ.out.trans (hb2.mono HZ.out.size))
  obtain ⟨ad1, hA1, hn1, hc1⟩ := FF.out 0 1 (by rw [HFO.out]; rfl)
  obtain ⟨ad2, hA2, hn2, hc2⟩ := GG.out 0 1 (by rw [HFO.out]; rfl)
  have x1 := Aside0.mk (pw_cell_below hb2 hc1)
  have x2 := Aside0.mk (pw_cell_below hb2 hc2)
  have N1 := Aside0.mk hn1
  have N2 := Aside0.mk hn2
  clear hb2 hc1 hc2 hn1 hn2 FF GG BE BO BW BF HZ
  generalize w1.heap.size = g4 at n6_ ⊢
  generalize w2.heap.size = g6 at BG ⊢
  generalize w2.alloc (.cells #[.string (wordB k), .slice AG (foK k).length (foK k).length, .pointer none, .slice (some ⟨bX, 0, none⟩) (wsK k).length (wsK k).length, .pointer (some ⟨w.heap.size + 1, 6, none⟩), .bool false] 48) = wz at *
  have BE := n1_
  have BO := n2_
  have BW := n3_
  have BF := n6_
  have HZ := n5_
  clear n1_ n2_ n3_ n5_ n6_
  subst hA1 hA2
  have y1 : wz.cell? ⟨g4, 1, none⟩ = some (.slice (some ad1) (foK k).length (foK k).length) := (blk_cell BF.out 1).trans rfl
  have y2 : wz.cell? ⟨g4, 2, none⟩ = some (.pointer none) := (blk_cell BF.out 2).trans rfl
  have y3 : wz.cell? ⟨g4, 3, none⟩ = some (.slice (some ⟨bW, 0, none⟩) (wsK k).length (wsK k).length) := (blk_cell BF.out 3).trans rfl
  have y4 : wz.cell? ⟨g4, 4, none⟩ = some (.pointer (some ⟨w.heap.size, 6, none⟩)) := (blk_cell BF.out 4).trans rfl
  have y5 : wz.cell? ⟨g4, 5, none⟩ = some (.bool false) := (blk_cell BF.out 5).trans rfl
  have z1 : wz.cell? ⟨g6, 1, none⟩ = some (.slice (some ad2) (foK k).length (foK k).length) := (blk_cell BG.out 1).trans rfl
  have z4 : wz.cell? ⟨g6, 4, none⟩ = some (.pointer (some ⟨w.heap.size + 1, 6, none⟩)) := (blk_cell BG.out 4).trans rfl
  rw [HFO.out] at y1 z1 ⊢
  have p1 : wz.cell? ad1 = some (.pointer (some ⟨w.heap.size, 1, none⟩)) := x1.out
  have p2 : wz.cell? ad2 = some (.pointer (some ⟨w.heap.size + 1, 1, none⟩)) := x2.out
  have e1 : wz.cell? ⟨w.heap.size, 1, none⟩ = some (.int .i64 x.f1) := (blk_cell BE.out 1).trans rfl
  have e6 : wz.cell? ⟨w.heap.size, 6, none⟩ = some (.int .i64 x.f6) := (blk_cell BE.out 6).trans rfl
  have o1 : wz.cell? ⟨w.heap.size + 1, 1, none⟩ = some (.int .i64 0) := (blk_cell BO.out 1).trans rfl
  have q1 : wz.frozen? ⟨w.heap.size + 1, 1, none⟩ = false := Lib.frozen_of_heap BO.out 1
  go_wp2_with (fail)
  refine wp_loop_rounds 2 ?_
  rw [rounds_succ]
  go_wp2_with (fail)
  go_region
  have NE4 := Aside0.mk (show g4 ≠ w.heap.size + 1 by rintro rfl; have h1 := BF.out.symm.trans BO.out; injection h1 with h1; injection h1 with _ h2 _; cases h2)
  have NE6 := Aside0.mk (show g6 ≠ w.heap.size + 1 by rintro rfl; have h1 := BG.out.symm.trans BO.out; injection h1 with h1; injection h1 with _ h2 _; cases h2)
  go_wp2_with (fail)
  clear y1 y2 y3 y4 y5 z1 z4 p1 p2 e1 e6 o1 q1
  have n1_ : Aside0 (((wz.setCell ⟨w.heap.size + 1, 1, none⟩ (.int .i64 x.f1)).drew).heap[w.heap.size]? = some (.cells (evC x (.slice A x.f7.length cap)) 24 (0, 0))) := ⟨hp_setne wz _ _ _ 1 _ (by omega) BE.out⟩
  have n2_ : Aside0 (((wz.setCell ⟨w.heap.size + 1, 1, none⟩ (.int .i64 x.f1)).drew).heap[w.heap.size + 1]? = some (.cells (evC ⟨x.f0, x.f1, 0, 0, 0, 0, 0, []⟩ (.slice none 0 0)) 24 (0, 0))) := ⟨blk_put (w := wz) BO.out 1 _ rfl⟩
  have n3_ : Aside0 (((wz.setCell ⟨w.heap.size + 1, 1, none⟩ (.int .i64 x.f1)).drew).heap[g4]? = some (.cells #[.string (wordB k), .slice (some ad1) (foK k).length (foK k).length, .pointer none, .slice (some ⟨bW, 0, none⟩) (wsK k).length (wsK k).length, .pointer (some ⟨w.heap.size, 6, none⟩), .bool false] 48 (0, 0))) := ⟨hp_setne wz _ _ _ 1 _ NE4.out BF.out⟩
  have n4_ : Aside0 (((wz.setCell ⟨w.heap.size + 1, 1, none⟩ (.int .i64 x.f1)).drew).heap[g6]? = some (.cells #[.string (wordB k), .slice (some ad2) (foK k).length (foK k).length, .pointer none, .slice (some ⟨bX, 0, none⟩) (wsK k).length (wsK k).length, .pointer (some ⟨w.heap.size + 1, 6, none⟩), .bool false] 48 (0, 0))) := ⟨hp_setne wz _ _ _ 1 _ NE6.out BG.out⟩
  have n5_ : Aside0 (Below w.heap.size w ((wz.setCell ⟨w.heap.size + 1, 1, none⟩ (.int .i64 x.f1)).drew)) := ⟨below_drew (Below.setCell HZ.out (p := ⟨w.heap.size + 1, 1, none⟩) (Nat.le_succ _) _)⟩
  clear BE BO BF BG HZ
  generalize (wz.setCell ⟨w.heap.size + 1, 1, none⟩ (.int .i64 x.f1)).drew = wy at n1_ n2_ n3_ n4_ n5_ ⊢
  have BE := n1_
  have BO := n2_
  have BF := n3_
  have BG := n4_
  have HZ := n5_
  clear n1_ n2_ n3_ n4_ n5_
  have y2 : wy.cell? ⟨g4, 2, none⟩ = some (.pointer none) := (blk_cell BF.out 2).trans rfl
  have y3 : wy.cell? ⟨g4, 3, none⟩ = some (.slice (some ⟨bW, 0, none⟩) (wsK k).length (wsK k).length) := (blk_cell BF.out 3).trans rfl
  have y4 : wy.cell? ⟨g4, 4, none⟩ = some (.pointer (some ⟨w.heap.size, 6, none⟩)) := (blk_cell BF.out 4).trans rfl
  have y5 : wy.cell? ⟨g4, 5, none⟩ = some (.bool false) := (blk_cell BF.out 5).trans rfl
  have z4 : wy.cell? ⟨g6, 4, none⟩ = some (.pointer (some ⟨w.heap.size + 1, 6, none⟩)) := (blk_cell BG.out 4).trans rfl
  have e6 : wy.cell? ⟨w.heap.size, 6, none⟩ = some (.int .i64 x.f6) := (blk_cell BE.out 6).trans rfl
  have o6 : wy.cell? ⟨w.heap.size + 1, 6, none⟩ = some (.int .i64 0) := (blk_cell BO.out 6).trans rfl
  have q6 : wy.frozen? ⟨w.heap.size + 1, 6, none⟩ = false := Lib.frozen_of_heap BO.out 6
  rw [rounds_succ]
  go_wp2_with (fail)
  go_quiet (fail)
  go_wp2_with (fail)
  have n1_ : Aside0 ((wy.drewN nq).heap[w.heap.size]? = some (.cells (evC x (.slice A x.f7.length cap)) 24 (0, 0))) := ⟨BE.out⟩
  have n2_ : Aside0 ((wy.drewN nq).heap[w.heap.size + 1]? = some (.cells (evC ⟨x.f0, x.f1, 0, 0, 0, 0, 0, []⟩ (.slice none 0 0)) 24 (0, 0))) := ⟨BO.out⟩
  have n3_ : Aside0 ((wy.drewN nq).heap[g4]? = some (.cells #[.string (wordB k), .slice (some ad1) (foK k).length (foK k).length, .pointer none, .slice (some ⟨bW, 0, none⟩) (wsK k).length (wsK k).length, .pointer (some ⟨w.heap.size, 6, none⟩), .bool false] 48 (0, 0))) := ⟨BF.out⟩
  have n4_ : Aside0 ((wy.drewN nq).heap[g6]? = some (.cells #[.string (wordB k), .slice (some ad2) (foK k).length (foK k).length, .pointer none, .slice (some ⟨bX, 0, none⟩) (wsK k).length (wsK k).length, .pointer (some ⟨w.heap.size + 1, 6, none⟩), .bool false] 48 (0, 0))) := ⟨BG.out⟩
  have n5_ : Aside0 (Below w.heap.size w (wy.drewN nq)) := ⟨pw_below_drewN HZ.out _⟩
  clear BE BO BF BG HZ
  generalize wy.drewN nq = wx at n1_ n2_ n3_ n4_ n5_ ⊢
  have BE := n1_
  have BO := n2_
  have BF := n3_
  have BG := n4_
  have HZ := n5_
  clear n1_ n2_ n3_ n4_ n5_
  clear y2 y3 y4 y5 z4 e6 o6 q6
  have y2 : wx.cell? ⟨g4, 2, none⟩ = some (.pointer none) := (blk_cell BF.out 2).trans rfl
  have y3 : wx.cell? ⟨g4, 3, none⟩ = some (.slice (some ⟨bW, 0, none⟩) (wsK k).length (wsK k).length) := (blk_cell BF.out 3).trans rfl
  have y4 : wx.cell? ⟨g4, 4, none⟩ = some (.pointer (some ⟨w.heap.size, 6, none⟩)) := (blk_cell BF.out 4).trans rfl
  have y5 : wx.cell? ⟨g4, 5, none⟩ = some (.bool false) := (blk_cell BF.out 5).trans rfl
  have z4 : wx.cell? ⟨g6, 4, none⟩ = some (.pointer (some ⟨w.heap.size + 1, 6, none⟩)) := (blk_cell BG.out 4).trans rfl
  have e6 : wx.cell? ⟨w.heap.size, 6, none⟩ = some (.int .i64 x.f6) := (blk_cell BE.out 6).trans rfl
  have o6 : wx.cell? ⟨w.heap.size + 1, 6, none⟩ = some (.int .i64 0) := (blk_cell BO.out 6).trans rfl
  have q6 : wx.frozen? ⟨w.heap.size + 1, 6, none⟩ = false := Lib.frozen_of_heap BO.out 6
  go_region
  clear y2 y3 y4 y5 z4 e6 o6 q6
  have n1_ : Aside0 (((wx.setCell ⟨w.heap.size + 1, 6, none⟩ (.int .i64 x.f6)).drew).heap[w.heap.size]? = some (.cells (evC x (.slice A x.f7.length cap)) 24 (0, 0))) := ⟨hp_setne wx _ _ _ 6 _ (by omega) BE.out⟩
  have n2_ : Aside0 (((wx.setCell ⟨w.heap.size + 1, 6, none⟩ (.int .i64 x.f6)).drew).heap[w.heap.size + 1]? = some (.cells (evC ⟨x.f0, x.f1, 0, 0, 0, 0, x.f6, []⟩ (.slice none 0 0)) 24 (0, 0))) := ⟨blk_put (w := wx) BO.out 6 _ rfl⟩
  have n3_ : Aside0 (((wx.setCell ⟨w.heap.size + 1, 6, none⟩ (.int .i64 x.f6)).drew).heap[g4]? = some (.cells #[.string (wordB k), .slice (some ad1) (foK k).length (foK k).length, .pointer none, .slice (some ⟨bW, 0, none⟩) (wsK k).length (wsK k).length, .pointer (some ⟨w.heap.size, 6, none⟩), .bool false] 48 (0, 0))) := ⟨hp_setne wx _ _ _ 6 _ NE4.out BF.out⟩
  have n4_ : Aside0 (((wx.setCell ⟨w.heap.size + 1, 6, none⟩ (.int .i64 x.f6)).drew).heap[g6]? = some (.cells #[.string (wordB k), .slice (some ad2) (foK k).length (foK k).length, .pointer none, .slice (some ⟨bX, 0, none⟩) (wsK k).length (wsK k).length, .pointer (some ⟨w.heap.size + 1, 6, none⟩), .bool false] 48 (0, 0))) := ⟨hp_setne wx _ _ _ 6 _ NE6.out BG.out⟩
  have n5_ : Aside0 (Below w.heap.size w ((wx.setCell ⟨w.heap.size + 1, 6, none⟩ (.int .i64 x.f6)).drew)) := ⟨below_drew (Below.setCell HZ.out (p := ⟨w.heap.size + 1, 6, none⟩) (Nat.le_succ _) _)⟩
  clear BE BO BF BG HZ
  generalize (wx.setCell ⟨w.heap.size + 1, 6, none⟩ (.int .i64 x.f6)).drew = wv at n1_ n2_ n3_ n4_ n5_ ⊢
  have BE := n1_
  have BO := n2_
  have BF := n3_
  have BG := n4_
  have HZ := n5_
  clear n1_ n2_ n3_ n4_ n5_
  have y5 : wv.cell? ⟨g4, 5, none⟩ = some (.bool false) := (blk_cell BF.out 5).trans rfl
  go_wp2_with (first
    | (refine wpList_load_row rfl 24 (.tmp 1) rfl w.heap.size rfl 24 (evC x (.slice A x.f7.length cap)) (0, 0) _ BE.out Tryd.underlying24 rfl (by kernel_rfl) ?_)
    | (refine wpList_load_row rfl 24 (.tmp 3) rfl (w.heap.size + 1) rfl 24 (evC ⟨x.f0, x.f1, 0, 0, 0, 0, x.f6, []⟩ (.slice none 0 0)) (0, 0) _ BO.out Tryd.underlying24 rfl (by kernel_rfl) ?_)
    | (go_at_call 24; refine (same_no x (⟨x.f0, x.f1, 0, 0, 0, 0, x.f6, []⟩ : S24) A none cap 0 _ (Kd.C_below HR.out HZ.out) HCAP.out (Kd.C_nil _ _) (Nat.le_refl _) SM.out).mono ?_; rintro e wq ⟨rfl, hb⟩; have x7 : wq.cell? ⟨w.heap.size, 7, none⟩ = some (.slice A x.f7.length cap) := cell_keep BE.out hb rfl; have HB2 := Aside0.mk (below_then HZ.out HZ.out.size hb); clear HZ hb; have HZ := HB2; clear HB2)
    | (go_at_call 25; refine (rises_any x.f7 A cap _ (Kd.C_below HR.out HZ.out) HCAP.out _ RI.out).mono ?_; rintro e wr ⟨rfl, hd⟩; have HB2 := Aside0.mk (below_then HZ.out HZ.out.size hd.below); clear HZ hd; have HZ := HB2; clear HB2))
  go_ret
  exact ⟨rfl, HZ.out⟩
end Go.Proofs.YtiapfhlipoomaaaDoor.Given
end
section
namespace Go.Proofs.YtiapfhlipoomaaaDoor.Given
open Go.RowKit Go.Proofs.YtiapfhlipoomaaaDoorW.PrintWords Go.Proofs.YtiapfhlipoomaaaDoorW.PrintLast Go.Proofs.YtiapfhlipoomaaaDoorW.PrintMore Go.Proofs.YtiapfhlipoomaaaDoor.Print
set_option linter.unusedVariables false
set_option linter.unusedSimpArgs false
def checkOf (x : S24) : Int := if 1 ≤ x.f0 ∧ x.f0 ≤ 11 then checkK x.f0.toNat x else 180
def okX (x : S24) : Bool := decide (1 ≤ x.f0 ∧ x.f0 ≤ 11) && okK x.f0.toNat x
theorem checkOf_ok (x : S24) : checkOf x = if okX x = true then 0 else 180 := by
  unfold checkOf okX checkK
  by_cases h : 1 ≤ x.f0 ∧ x.f0 ≤ 11
  · rw [if_pos h, decide_eq_true h, Bool.true_and]
  · rw [if_neg h, decide_eq_false h, Bool.false_and, if_neg (by decide)]
theorem cls_of0 (k : Nat) : clsK k = 0 ∨ clsK k = 1 ∨ clsK k = 2 := by
  unfold clsK
  split <;> simp
set_option maxRecDepth 100000 in
set_option maxHeartbeats 2000000 in
theorem check_no (x : S24) (hk : x.f0 < 1 ∨ 11 < x.f0) (A : Option Addr) (cap : Nat) (w : World) :
    Calls Tryd.prog 10 #[evV x A cap] w fun e w' => e = .returned (.int .i64 180) ∧ Below w.heap.size w w' := by
  have hu24 := Tryd.underlying24
  have hu48 := Tryd.underlying48
  have T1 := Aside0.mk True.intro
  go_enter Tryd.func10, Tryd.ntmps10
  go_wp2_with (first
    | (go_at_call 23; clear T1; refine (form_no _ x.f0 _ hk ((blk_cell (hp_lt _ _ _ _ (heap_alloc_new w (.cells (evC x (.slice A x.f7.length cap)) 24))) 0).trans rfl)).mono ?_; rintro e w' ⟨rfl, rfl⟩)
    | (go_at_call 23; refine (form_no _ x.f0 _ hk ((blk_cell (t := 24) (cs := evC ⟨x.f0, 0, 0, 0, 0, 0, 0, []⟩ (.slice none 0 0)) (by repeat first | with_reducible exact hp_new _ _ _ (by simp only [size_alloc, heap_drew]; done) | with_reducible refine hp_lt _ _ _ _ ?_ | with_reducible refine hp_drew _ _ _ ?_) 0).trans rfl)).mono ?_; rintro e w' ⟨rfl, rfl⟩))
  go_ret
  exact ⟨rfl, by repeat first | with_reducible exact Below.refl _ _ | with_reducible refine below_alloc ?_ _ | with_reducible refine below_drew ?_⟩
theorem chk_any (x : S24) (A : Option Addr) (cap : Nat) (w : World) (hr : Kd.C (Kd.int .i64) w A x.f7.length x.f7) (hc : x.f7.length ≤ cap) :
    Calls Tryd.prog 10 #[evV x A cap] w fun e w' => e = .returned (.int .i64 (checkOf x)) ∧ Below w.heap.size w w' := by
  by_cases hk : 1 ≤ x.f0 ∧ x.f0 ≤ 11
  · obtain ⟨k, hkk⟩ : ∃ k : Nat, x.f0 = k := ⟨x.f0.toNat, by omega⟩
    have h1 : 1 ≤ k := by omega
    have h2 : k ≤ 11 := by omega
    have hco : checkOf x = checkK k x := by unfold checkOf; rw [if_pos hk, hkk, Int.toNat_natCast]
    rw [hco]
    rcases cls_of0 k with hcl | hcl | hcl
    · exact check_c0 k h1 h2 hcl x hkk A cap w hr hc
    · exact check_c1 k h1 h2 hcl x hkk A cap w hr hc
    · have hok := ok_c2 k hcl x
      by_cases hn : x.f1 < 0
      · rw [show checkK k x = 180 from if_neg (by rw [hok]; simp; omega)]
        exact check_c2_neg k h1 h2 hcl x hkk A cap w hr hc hn
      by_cases hm : x.f6 < 1
      · rw [show checkK k x = 180 from if_neg (by rw [hok]; simp; omega)]
        exact check_c2_lo k h1 h2 hcl x hkk A cap w hr hc hn hm
      by_cases hw : ((wsK k).length : Int) ≤ x.f6
      · rw [show checkK k x = 180 from if_neg (by rw [hok]; simp; omega)]
        exact check_c2_hi k h1 h2 hcl x hkk A cap w hr hc hn hm hw
      by_cases hs : sameP x ⟨x.f0, x.f1, 0, 0, 0, 0, x.f6, []⟩
      · rw [show checkK k x = 0 from if_pos (by rw [hok]; obtain ⟨_, _, s2, s3, s4, s5, _, s7⟩ := hs; simp only at s2 s3 s4 s5 s7; exact decide_eq_true ⟨by omega, by omega, by omega, s2, s3, s4, s5, s7⟩)]
        exact check_c2_yes k h1 h2 hcl x hkk A cap w hr hc hn hm hw hs
      · rw [show checkK k x = 180 from if_neg (by rw [hok]; intro h; obtain ⟨_, _, _, s2, s3, s4, s5, s7⟩ := of_decide_eq_true h; exact hs ⟨rfl, rfl, s2, s3, s4, s5, rfl, s7⟩)]
        exact check_c2_no k h1 h2 hcl x hkk A cap w hr hc hn hm hw hs
  · have hco : checkOf x = 180 := by unfold checkOf; rw [if_neg hk]
    rw [hco]
    exact check_no x (by omega) A cap w
end Go.Proofs.YtiapfhlipoomaaaDoor.Given
end
section
namespace Go.Proofs.YtiapfhlipoomaaaDoor.Given
open Go.RowKit Go.Proofs.YtiapfhlipoomaaaDoorW.PrintWords Go.Proofs.YtiapfhlipoomaaaDoorW.PrintLast Go.Proofs.YtiapfhlipoomaaaDoorW.PrintMore Go.Proofs.YtiapfhlipoomaaaDoor.Print
set_option linter.unusedVariables false
set_option linter.unusedSimpArgs false
def joinB (xs : List ByteArray) : ByteArray := ⟨(Lib.join (xs.map (·.data.toList)) [32]).toArray⟩
def lineB (xs : List ByteArray) : ByteArray := joinB xs ++ ⟨#[10]⟩
theorem joinB_size (xs : List ByteArray) : (joinB xs).size = (Lib.join (xs.map (·.data.toList)) [32]).length := by
  show (Lib.join (xs.map (·.data.toList)) [32]).toArray.size = _
  rw [List.size_toArray]
theorem lineB_size (xs : List ByteArray) : (lineB xs).size = (joinB xs).size + 1 := by
  rw [lineB, size_append]
  rfl
theorem join_len : ∀ (xs : List (List UInt8)), xs.length ≤ (Lib.join xs [32]).length + 1
  | [] => by simp
  | x :: r => by
    rw [Lib.join_cons]
    have : r.length ≤ (Lib.joinTail [32] r).length := by
      unfold Lib.joinTail
      induction r with
      | nil => simp
      | cons y r ih => simp only [List.map_cons, List.flatten_cons, List.length_append, List.length_cons, List.length_nil]; omega
    simp only [List.length_cons, List.length_append]
    omega
theorem R_blk {α : Type} {d : Kd α} {e base : Nat} {ok : Nat → Prop} {w : World} {v : Value} {xs : List α} (h : Kd.R d e w base ok v xs) (hne : xs ≠ []) : ∃ g c, v = .slice (some ⟨g, 0, none⟩) xs.length c ∧ g < w.heap.size := by
  obtain ⟨inner, ho⟩ := Kd.R_own h
  obtain ⟨A, c, hv, hl, hr⟩ := Kd.R_reads h
  have h2 := ho.2
  rcases h2 with ⟨h0, hn⟩ | ⟨g, cap, cur, hv', hB, hg, _⟩
  · rw [hv] at h0
    injection h0 with _ h1 _
    exact absurd (List.eq_nil_of_length_eq_zero h1) hne
  · exact ⟨g, cap, hv', blk_lt hg⟩
theorem join_call {base : Nat} {ok : Nat → Prop} {v : Value} (xs : List ByteArray) (w : World) (hv : Kd.R Kd.string 9 w base ok v xs) (hne : xs ≠ []) (hs : (joinB xs).size < 140737488355328) :
    Calls Tryd.prog 45 #[v, .string ⟨#[32]⟩] w fun e w' => e = .returned (.string (joinB xs)) ∧ Below w.heap.size w w' := by
  obtain ⟨g, c, rfl, hg⟩ := R_blk hv hne
  obtain ⟨_, hl, hr⟩ := Kd.R_reads' hv
  have hj := joinB_size xs
  have hlen := join_len (xs.map (·.data.toList))
  rw [List.length_map] at hlen
  refine (Tryd.strings_Join g 0 c xs ⟨#[32]⟩ w ?_ hg (by omega) hl (by show (Lib.join (xs.map (·.data.toList)) [32]).length ≤ _; omega)).mono ?_
  · intro j x hx
    have hj := (List.getElem?_eq_some_iff.1 hx).1
    obtain ⟨ad, e, hc⟩ := Kd.at_string hr (j : Int) (by omega) (by omega)
    injection e with e
    subst e
    rw [Int.toNat_natCast] at hc
    have e2 : (⟨g, 0, none⟩ : Addr).add j = ⟨g, 0 + j, none⟩ := by simp [Addr.add]; try exact Eq.symm
    rw [e2] at hc
    rw [hc]
    simp [rdOf, hx]
  · rintro e w' ⟨rfl, hb⟩
    exact ⟨rfl, hb⟩
set_option maxRecDepth 100000 in
set_option maxHeartbeats 2000000 in
theorem put_any {base : Nat} {ok : Nat → Prop} {v : Value} (b : Nat) (acc : ByteArray) (xs : List ByteArray) (w : World) (h : Lib.IsBuilder 61 5 b b (Lib.strCells acc) w) (hv : Kd.R Kd.string 9 w base ok v xs) (hne : xs ≠ []) (hlen : acc.size + (lineB xs).size ≤ 140737488355328) (hbw : b ≤ w.heap.size) :
    Calls Tryd.prog 33 #[.pointer (some ⟨b, 0, none⟩), v] w fun e w' => e = .returned (.tuple #[]) ∧ Lib.IsBuilder 61 5 b b (Lib.strCells (acc ++ lineB xs)) w' ∧ Below b w w' := by
  have H := Aside0.mk h
  have HV := Aside0.mk hv
  have hls := lineB_size xs
  have HS : Aside0 ((joinB xs).size < 140737488355328) := ⟨by omega⟩
  have HL : Aside0 (acc.size + (joinB xs).size ≤ 140737488355328) := ⟨by omega⟩
  have HL2 : Aside0 ((acc ++ joinB xs).size + 1 ≤ 140737488355328) := ⟨by rw [size_append]; omega⟩
  have HBW := Aside0.mk hbw
  clear h hv hlen hls hbw
  go_enter Tryd.func33, Tryd.ntmps33
  go_wp2_with (first
    | (go_at_call 45; refine (join_call xs _ HV.out hne HS.out).mono ?_; rintro e w1 ⟨rfl, hb⟩; have H1 := Aside0.mk (builder_below H.out hb); have B1 := Aside0.mk (show Below b w w1 from ⟨hb.os, hb.tape, hb.output, hb.size, fun k hk => hb.block k (by have := HBW.out; omega)⟩); clear hb)
    | (go_at_call 44; refine (write_on b acc (joinB xs) _ H1.out HL.out).mono ?_; rintro e w2 ⟨rfl, h2, hb, _⟩; have H2 := Aside0.mk h2; have B2 := Aside0.mk (B1.out.trans hb); clear h2 hb)
    | (go_at_call 46; refine (byte_any b b _ 10 _ H2.out (by rw [Lib.strCells_length]; exact HL2.out) (by have := HBW.out; have := B2.out.size; omega)).mono ?_; rintro e w3 ⟨rfl, h3, hb, _⟩; have H3 := Aside0.mk h3; have B3 := Aside0.mk (B2.out.trans hb); clear h3 hb))
  go_end0
  refine ⟨rfl, .inr ?_, B3.out⟩
  have := H3.out
  rw [strCells_append, lineB, strCells_append, ← List.append_assoc, ← strCells_append]
  exact this
end Go.Proofs.YtiapfhlipoomaaaDoor.Given
end
section
namespace Go.Proofs.YtiapfhlipoomaaaDoor.Given
open Go.RowKit Go.Proofs.YtiapfhlipoomaaaDoorW.PrintWords Go.Proofs.YtiapfhlipoomaaaDoorW.PrintLast Go.Proofs.YtiapfhlipoomaaaDoorW.PrintMore Go.Proofs.YtiapfhlipoomaaaDoor.Print
set_option linter.unusedVariables false
set_option linter.unusedSimpArgs false
def wordsF (k : Nat) (x : S24) : List ByteArray := wordB k :: (foK k).map (fun o => itoaB (getK x o))
def wordsM (k : Nat) (x : S24) : List ByteArray := if clsK k = 1 then [itoaB x.f6] else if clsK k = 2 then [(wsK k).getD x.f6.toNat ⟨#[]⟩] else []
def wordsK (k : Nat) (x : S24) : List ByteArray := wordsF k x ++ wordsM k x ++ x.f7.map itoaB
def wordsX (x : S24) : List ByteArray := wordsK x.f0.toNat x
def textOf (l : List S24) : ByteArray := l.foldl (fun acc x => acc ++ lineB (wordsX x)) ⟨#[]⟩
def printOf (l : List S24) : ByteArray × Int := if l.all okX = true then (textOf l, 0) else (⟨#[]⟩, 180)
theorem textOf_snoc (l : List S24) (x : S24) : textOf (l ++ [x]) = textOf l ++ lineB (wordsX x) := by simp [textOf]
theorem textOf_size (a b : List S24) : (textOf a).size ≤ (textOf (a ++ b)).size := by
  have key : ∀ (b : List S24) (s : ByteArray), s.size ≤ (b.foldl (fun acc x => acc ++ lineB (wordsX x)) s).size := by
    intro b
    induction b with
    | nil => intro s; exact Nat.le_refl _
    | cons x b ih =>
      intro s
      refine Nat.le_trans ?_ (ih _)
      rw [size_append]
      omega
  have : textOf (a ++ b) = b.foldl (fun acc x => acc ++ lineB (wordsX x)) (textOf a) := by simp [textOf]
  rw [this]
  exact key b _
theorem words_len (xs : List ByteArray) : xs.length ≤ (lineB xs).size := by
  have h := join_len (xs.map (·.data.toList))
  rw [List.length_map] at h
  rw [lineB_size, joinB_size]
  exact h
def rngX (x : S24) : Prop := (∀ o, o ≤ 6 → -9223372036854775808 ≤ getK x o ∧ getK x o ≤ 9223372036854775807) ∧ ∀ n ∈ x.f7, -9223372036854775808 ≤ n ∧ n ≤ 9223372036854775807
end Go.Proofs.YtiapfhlipoomaaaDoor.Given
end
section
namespace Go.Proofs.YtiapfhlipoomaaaDoor.Given
open Go.RowKit Go.Proofs.YtiapfhlipoomaaaDoorW.PrintWords Go.Proofs.YtiapfhlipoomaaaDoorW.PrintLast Go.Proofs.YtiapfhlipoomaaaDoorW.PrintMore Go.Proofs.YtiapfhlipoomaaaDoor.Print
set_option linter.unusedVariables false
set_option linter.unusedSimpArgs false
theorem take_next {α β : Type} (f : α → β) (l : List α) (k : Nat) (x : α) (h : l[k]? = some x) : (l.take (k + 1)).map f = (l.take k).map f ++ [f x] := by
  rw [List.take_add_one, h]
  simp
theorem ret_print {a b : ByteArray × Int} (h : a = b) : Ending.returned (.tuple #[.string a.1, .int .i64 a.2]) = .returned (.tuple #[.string b.1, .int .i64 b.2]) := by rw [h]
theorem print_bad (l : List S24) (k : Nat) (x : S24) (hx : l[k]? = some x) (h : okX x = false) : printOf l = (⟨#[]⟩, 180) := by
  unfold printOf
  rw [if_neg]
  intro ha
  have := List.all_eq_true.1 ha x (List.mem_of_getElem? hx)
  rw [h] at this
  cases this
theorem ws_in (k : Nat) (x : S24) (hc : clsK k = 2) (hok : okX x = true) (hk : x.f0 = k) : 0 ≤ x.f6 ∧ x.f6 < (wsK k).length := by
  unfold okX at hok
  rw [Bool.and_eq_true] at hok
  have h := hok.2
  rw [hk, Int.toNat_natCast] at h
  match k, hc, h with
  | 6, _, h => simp [okK, wsK] at h ⊢; omega
  | 11, _, h => simp [okK, wsK] at h ⊢; omega
theorem num_at {w : World} {A : Option Addr} {n : Nat} {ns : List Int} (h : Kd.C (Kd.int .i64) w A n ns) (j : Nat) (x : Int) (hx : ns[j]? = some x) : ∃ ad, A = some ad ∧ w.cell? (ad.add j) = some (.int .i64 x) := by
  have hl := (List.getElem?_eq_some_iff.1 hx).1
  obtain ⟨ad, e, hc⟩ := Kd.at_int h (j : Int) (by omega) (by have := Kd.C_len h; omega)
  rw [Int.toNat_natCast] at hc
  refine ⟨ad, e, ?_⟩
  rw [hc]
  simp [rd, hx]
theorem ok_kind (x : S24) (h : okX x = true) : ∃ k : Nat, 1 ≤ k ∧ k ≤ 11 ∧ x.f0 = k := by
  unfold okX at h
  rw [Bool.and_eq_true, decide_eq_true_eq] at h
  exact ⟨x.f0.toNat, by omega, by omega, by omega⟩
theorem cls_of (k : Nat) : clsK k = 0 ∨ clsK k = 1 ∨ clsK k = 2 := by
  unfold clsK
  split <;> simp
theorem ev_at {w : World} {A : Option Addr} {l : List S24} (h : Kd.C k24 w A l.length l) (j : Nat) (x : S24) (hx : l[j]? = some x) :
    ∃ ad A7 c7, A = some ad ∧ x.f7.length ≤ c7 ∧ Kd.C (Kd.int .i64) w A7 x.f7.length x.f7 ∧ ∀ i v, (evC x (.slice A7 x.f7.length c7))[i]? = some v → w.cell? (ad.add (j * 8 + i)) = some v := by
  have hl := (List.getElem?_eq_some_iff.1 hx).1
  obtain ⟨ad, c, e, _, hK, hc⟩ := Kd.C_get h z24 (j : Int) (by omega) (by omega)
  rw [Int.toNat_natCast] at hK hc
  have hg : l.getD j z24 = x := by simp [hx]
  rw [hg] at hK
  obtain ⟨A7, c7, rfl, l7, g7⟩ := k24_open hK
  exact ⟨ad, A7, c7, e, l7, g7, fun i v hv => hc i v (by rw [← hv]; simp [evC])⟩
set_option maxRecDepth 100000 in
set_option maxHeartbeats 16000000 in
theorem print_any (A : Option Addr) (cp : Nat) (l : List S24) (w : World) (hr : Kd.C k24 w A l.length l) (hL : LW w) (hrng : ∀ x ∈ l, rngX x) (hsz : (textOf l).size ≤ 1099511627776) :
    Calls Tryd.prog 14 #[.slice A l.length cp] w fun e w' => e = .returned (.tuple #[.string (printOf l).1, .int .i64 (printOf l).2]) ∧ Below w.heap.size w w' := by
  have hu24 := Tryd.underlying24
  have hu48 := Tryd.underlying48
  have hu61 := Tryd.underlying61
  have hm := hr.2.1
  have HR := Aside0.mk hr
  have HL := Aside0.mk hL
  have HRG0 := Aside0.mk hrng
  have HS := Aside0.mk hsz
  clear hr hL hrng hsz
  go_enter Tryd.func14, Tryd.ntmps14
  go_wp2
  go_loopw [17] (fun i wr => ∃ j : Nat, i = .int .i64 j ∧ j ≤ l.length ∧ Aside0 (Lib.IsBuilder 61 5 w.heap.size w.heap.size (Lib.strCells (textOf (l.take j))) wr) ∧ Aside0 (Below w.heap.size w wr) ∧ Aside0 (∀ x ∈ l.take j, okX x = true)) (fun i _ => l.length - (intOf i).toNat)
  case atStart => exact ⟨0, rfl, by omega, ⟨show Lib.IsBuilder 61 5 _ _ [] _ from Lib.fresh_isBuilder 61 5 w⟩, ⟨bel1 w _⟩, ⟨fun x h => by simp at h⟩⟩
  case round =>
    obtain ⟨j, rfl, hj, HBL, HB, HAL⟩ := hrel
    obtain ⟨wo, rfl⟩ : ∃ wo : World, wo = wr := ⟨_, rfl⟩
    by_cases hlt : j < l.length
    · obtain ⟨x, hx⟩ : ∃ x, l[j]? = some x := ⟨_, List.getElem?_eq_getElem hlt⟩
      obtain ⟨ad, A7, c7, rfl, h7, hC7, hrow⟩ := ev_at HR.out j x hx
      have HC7 := Aside0.mk hC7
      have H7 := Aside0.mk h7
      have HRX := Aside0.mk (HRG0.out x (List.mem_of_getElem? hx))
      have q0 : wo.cell? (ad.add (j * 8)) = some (.int .i64 x.f0) := pw_cell_below HB.out (hrow 0 _ rfl)
      have q1 : wo.cell? ⟨(ad.add (j * 8)).block, (ad.add (j * 8)).off + 1, none⟩ = some (.int .i64 x.f1) := by rw [← add_field _ _ 1 (by omega)]; exact pw_cell_below HB.out (hrow 1 _ rfl)
      have q2 : wo.cell? ⟨(ad.add (j * 8)).block, (ad.add (j * 8)).off + 2, none⟩ = some (.int .i64 x.f2) := by rw [← add_field _ _ 2 (by omega)]; exact pw_cell_below HB.out (hrow 2 _ rfl)
      have q3 : wo.cell? ⟨(ad.add (j * 8)).block, (ad.add (j * 8)).off + 3, none⟩ = some (.int .i64 x.f3) := by rw [← add_field _ _ 3 (by omega)]; exact pw_cell_below HB.out (hrow 3 _ rfl)
      have q4 : wo.cell? ⟨(ad.add (j * 8)).block, (ad.add (j * 8)).off + 4, none⟩ = some (.int .i64 x.f4) := by rw [← add_field _ _ 4 (by omega)]; exact pw_cell_below HB.out (hrow 4 _ rfl)
      have q5 : wo.cell? ⟨(ad.add (j * 8)).block, (ad.add (j * 8)).off + 5, none⟩ = some (.int .i64 x.f5) := by rw [← add_field _ _ 5 (by omega)]; exact pw_cell_below HB.out (hrow 5 _ rfl)
      have q6 : wo.cell? ⟨(ad.add (j * 8)).block, (ad.add (j * 8)).off + 6, none⟩ = some (.int .i64 x.f6) := by rw [← add_field _ _ 6 (by omega)]; exact pw_cell_below HB.out (hrow 6 _ rfl)
      have q7 : wo.cell? ⟨(ad.add (j * 8)).block, (ad.add (j * 8)).off + 7, none⟩ = some (.slice A7 x.f7.length c7) := by rw [← add_field _ _ 7 (by omega)]; exact pw_cell_below HB.out (hrow 7 _ rfl)
      clear hrow h7 hC7
      cases hok : okX x with
      | false =>
        have HCK : Aside0 (checkOf x = 180) := ⟨by rw [checkOf_ok, hok]; rfl⟩
        have HPR := Aside0.mk (print_bad l j x hx hok)
        clear hok hx
        go_wp2_with (go_at_call 10; refine (chk_any x A7 c7 _ (Kd.C_below HC7.out (HB.out.trans ((below_alloc (Below.refl _ wo) _).mono HB.out.size))) H7.out).mono ?_; rw [HCK.out]; rintro e w1 ⟨rfl, hb⟩; have HE := Aside0.mk (HB.out.trans (((below_alloc (Below.refl _ wo) (.cells (evC x (.slice A7 x.f7.length c7)) 24)).trans (hb.mono (by rw [size_alloc]; exact Nat.le_succ _))).mono HB.out.size)); clear hb)
        go_ret2
        exact ⟨ret_print (a := (⟨#[]⟩, 180)) HPR.out.symm, HE.out⟩
      | true =>
        have HCK : Aside0 (checkOf x = 0) := ⟨by rw [checkOf_ok, hok]; rfl⟩
        have HTX : Aside0 (textOf (l.take (j + 1)) = textOf (l.take j) ++ lineB (wordsX x)) := ⟨by rw [List.take_add_one, hx]; exact textOf_snoc _ _⟩
        have HSZ : Aside0 ((textOf (l.take j)).size + (lineB (wordsX x)).size ≤ 140737488355328) := ⟨by
          have h1 := textOf_size (l.take (j + 1)) (l.drop (j + 1))
          rw [List.take_append_drop, HTX.out, size_append] at h1
          have := HS.out
          omega⟩
        have HWL0 : Aside0 ((wordsX x).length ≤ 1099511627776) := ⟨by
          have h1 := textOf_size (l.take (j + 1)) (l.drop (j + 1))
          rw [List.take_append_drop, HTX.out, size_append] at h1
          have := HS.out
          have := words_len (wordsX x)
          omega⟩
        have HALL : Aside0 (∀ y ∈ l.take (j + 1), okX y = true) := ⟨fun y hy => by
          rw [List.take_add_one, hx] at hy
          simp only [Option.toList_some, List.mem_append, List.mem_singleton] at hy
          rcases hy with hy | rfl
          · exact HAL.out y hy
          · exact hok⟩
        have HOK := Aside0.mk hok
        obtain ⟨k, hk1, hk2, hkk⟩ := ok_kind x hok
        have HK1 := Aside0.mk hk1
        have HK2 := Aside0.mk hk2
        have HKK := Aside0.mk hkk
        have HKN : Aside0 (x.f0.toNat = k) := ⟨by rw [hkk]; exact Int.toNat_natCast k⟩
        have HWL : Aside0 ((wordsK k x).length ≤ 1099511627776) := ⟨by have := HWL0.out; unfold wordsX at this; rwa [HKN.out] at this⟩
        clear hx hok hk1 hk2 hkk HWL0
        rcases cls_of k with hcl | hcl | hcl
        · have HCL := Aside0.mk hcl
          clear hcl
          go_upto_region 9 with (first | (go_at_call 10; refine (chk_any x A7 c7 _ (Kd.C_below HC7.out (HB.out.trans ((below_alloc (Below.refl _ wo) _).mono HB.out.size))) H7.out).mono ?_; rw [HCK.out]; rintro e w1 ⟨rfl, hb⟩; have BE := Aside0.mk (blk_below (heap_alloc_new wo (.cells (evC x (.slice A7 x.f7.length c7)) 24)) hb); have HE := Aside0.mk ((below_alloc (Below.refl _ wo) (.cells (evC x (.slice A7 x.f7.length c7)) 24)).trans (hb.mono (by rw [size_alloc]; exact Nat.le_succ _))); clear hb) | (go_at_call 23; refine (form_c0 k HK1.out HK2.out HCL.out wo.heap.size x (.slice A7 x.f7.length c7) _ HKK.out BE.out).mono ?_; rintro e w2 ⟨_, rfl, ⟨AF, rfl, hF⟩, hb⟩; have FF := Aside0.mk hF; have n1_ := Aside0.mk (blk_below BE.out hb); have n2_ := Aside0.mk (HE.out.trans (hb.mono HE.out.size)); clear BE HE; have BE := n1_; have HE := n2_; clear n1_ n2_ hF hb))
          have BF := Aside0.mk (heap_alloc_new w2 (.cells #[.string (wordB k), .slice AF (foK k).length (foK k).length, .pointer none, .slice none 0 0, .pointer none, .bool (liK k)] 48))
          have n1_ := Aside0.mk (blk_below BE.out (bel1 w2 (.cells #[.string (wordB k), .slice AF (foK k).length (foK k).length, .pointer none, .slice none 0 0, .pointer none, .bool (liK k)] 48)))
          have HZ0 := Aside0.mk (HE.out.trans ((bel1 w2 (.cells #[.string (wordB k), .slice AF (foK k).length (foK k).length, .pointer none, .slice none 0 0, .pointer none, .bool (liK k)] 48)).mono HE.out.size))
          have n2_ : Aside0 (∀ (j o : Nat), (foK k)[j]? = some o → ∃ ad, AF = some ad ∧ (w2.alloc (.cells #[.string (wordB k), .slice AF (foK k).length (foK k).length, .pointer none, .slice none 0 0, .pointer none, .bool (liK k)] 48)).cell? (ad.add j) = some (.pointer (some ⟨wo.heap.size, o, none⟩))) := ⟨fun j o hj => by obtain ⟨ad, h1, _, h2⟩ := FF.out j o hj; exact ⟨ad, h1, pw_cell_below (bel1 w2 _) h2⟩⟩
          clear FF BE
          generalize w2.heap.size = g8 at BF ⊢
          generalize w2.alloc (.cells #[.string (wordB k), .slice AF (foK k).length (foK k).length, .pointer none, .slice none 0 0, .pointer none, .bool (liK k)] 48) = wz at *
          have HZ := Aside0.mk (HB.out.trans (HZ0.out.mono HB.out.size))
          have BE := n1_
          have FF := n2_
          clear n1_ n2_ HE
          have y0 : wz.cell? ⟨g8, 0, none⟩ = some (.string (wordB k)) := (blk_cell BF.out 0).trans rfl
          go_wp2_with (first | ((with_reducible refine gate_dst (N := 32) rfl ?_); refine Kd.R_lit Kd.string (w0 := wz) wz.heap.size 9 ?hg (N := 32) ?hd (xs := [wordB k]) (inner := [.string (wordB k)]) (ok := fun _ => True) (okp := fun _ => True) ?hr ?hp (fun _ hk => hk) trivial ?hb ?hs (by simp) ?_; (case hd => rfl); (case hg => rfl); (case hr => first | (go_simp; done) | (go_simp; rfl)); (case hp => exact (Reps.one (show Kd.M Kd.string _ _ _ (wordB k) [.string (wordB k)] from rfl) (Reps.none _ _))); (case hb => exact Below.refl _ _); (case hs => exact Nat.le_refl _); intro v0 w3 ho hb hg_ hat_; clear hg_ hat_; have HO := Aside0.mk ho; have HB1 := Aside0.mk hb; clear ho hb; have y1 : w3.cell? ⟨g8, 1, none⟩ = some (.slice AF (foK k).length (foK k).length) := cell_keep BF.out HB1.out rfl))
          clear y0 y1
          go_loopw [10, 36] (fun v10 i wr => ∃ a : Nat, i = .int .i64 a ∧ a ≤ (foK k).length ∧ Aside0 (Kd.R Kd.string 9 wr wz.heap.size (fun _ => True) v10 (wordB k :: ((foK k).take a).map (fun o => itoaB (getK x o)))) ∧ Aside0 (Below wz.heap.size wz wr)) (fun _ i _ => (foK k).length - (intOf i).toNat)
          case atStart => exact ⟨0, rfl, by omega, HO, HB1⟩
          case round =>
            clear HO HB1
            obtain ⟨a, rfl, ha, HO, HB1⟩ := hrel
            have hfl := fo_len k
            by_cases hlt : a < (foK k).length
            · obtain ⟨o, ho⟩ : ∃ o, (foK k)[a]? = some o := ⟨_, List.getElem?_eq_getElem hlt⟩
              obtain ⟨ad1, rfl, hc1⟩ := FF.out a o ho
              have ho6 := fo_le k o (List.mem_of_getElem? ho)
              have x1 : wr.cell? (ad1.add a) = some (.pointer (some ⟨wo.heap.size, o, none⟩)) := pw_cell_below HB1.out hc1
              obtain ⟨n, hn⟩ : ∃ n, n = getK x o := ⟨_, rfl⟩
              have x2 : wr.cell? ⟨wo.heap.size, o, none⟩ = some (.int .i64 n) := cell_keep BE.out HB1.out (by rw [hn]; exact ev_get x _ o ho6.1 ho6.2)
              have HRG := Aside0.mk (hn ▸ HRX.out.1 o ho6.2)
              have HT2 : Aside0 (wordB k :: ((foK k).take (a + 1)).map (fun o => itoaB (getK x o)) = (wordB k :: ((foK k).take a).map (fun o => itoaB (getK x o))) ++ [itoaB n]) := ⟨by rw [take_next _ _ a o ho, hn]; rfl⟩
              have HTL : Aside0 (((wordB k :: ((foK k).take a).map (fun o => itoaB (getK x o))).length + 1) * 16 ≤ 140737488355328) := ⟨by rw [List.length_cons, List.length_map, List.length_take]; omega⟩
              clear hc1 ho ho6 hn
              go_wp2_with (first
                | (go_at_call 32; refine (itoa_any (n) HRG.out _ (HL.out.below (HZ.out.trans (HB1.out.mono HZ.out.size)))).mono ?_; rintro e w3 ⟨rfl, hb⟩; have n1_ := Aside0.mk (Kd.R_below HO.out hb); have n3_ := Aside0.mk (below_then HB1.out HB1.out.size hb); clear HO HB1 hb; have HO := n1_; have HB1 := n3_; clear n1_ n3_)
                | ((with_reducible refine gate_builtin (b := .append) (xs := #[.tmp 40, .tmp 45]) rfl ?_); at_builtin; refine Kd.R_append Kd.string (w0 := wz) wz.heap.size rfl (.tmp 40) (.tmp 45) 46 9 (.string ⟨#[]⟩) 16 rfl Tryd.underlying46 info9 rfl (by decide) (by omega) u10 (wordB k :: ((foK k).take a).map (fun o => itoaB (getK x o))) (itoaB n) [.string (itoaB n)] (fun _ => True) (fun _ => False) rfl rfl ?aP (fun _ hk => hk.elim) ?aF ?aO ?aB ?aS ?aL ?_; (case aP => exact rfl); (case aB => exact HB1.out); (case aF => exact (fun _ _ => trivial)); (case aO => exact HO.out); (case aS => exact HB1.out.size); (case aL => exact HTL.out); intro v7 w7 ho hb hg_ hat_; clear hg_ hat_; have n1_ : Aside0 (Kd.R Kd.string 9 w7 wz.heap.size (fun _ => True) v7 (wordB k :: ((foK k).take a).map (fun o => itoaB (getK x o)) ++ [itoaB n])) := ⟨ho⟩; have n3_ := Aside0.mk hb; clear HO HB1 ho hb; have HO := n1_; have HB1 := n3_; clear n1_ n3_))
              go_roundw
              case rel => exact ⟨a + 1, by go_num, by omega, by rw [HT2.out]; exact HO, HB1⟩
              case measure => simp [intOf]; omega
            · obtain rfl : a = (foK k).length := by omega
              rw [List.take_length] at HO
              clear hlt ha
              have HO0 : Aside0 (Kd.R Kd.string 9 wr wz.heap.size (fun _ => True) u10 (wordsF k x)) := HO
              clear HO
              have HO := HO0
              clear HO0
              have z2 : wr.cell? ⟨g8, 2, none⟩ = some (.pointer none) := cell_keep BF.out HB1.out rfl
              have z3 : wr.cell? ⟨g8, 3, none⟩ = some (.slice none 0 0) := cell_keep BF.out HB1.out rfl
              have hu46 := Tryd.underlying46
              have e7 : wr.cell? ⟨wo.heap.size, 7, none⟩ = some (.slice A7 x.f7.length c7) := cell_keep BE.out HB1.out rfl
              have HM : Aside0 (wordsM k x = []) := ⟨by unfold wordsM; rw [HCL.out]; rfl⟩
              have HO0 : Aside0 (Kd.R Kd.string 9 wr wz.heap.size (fun _ => True) u10 (wordsF k x ++ wordsM k x)) := ⟨by rw [HM.out, List.append_nil]; exact HO.out⟩
              clear HO
              have HO := HO0
              clear HO0
              go_wp2_with (fail)
              go_loopw [10, 78] (fun v10 i wr => ∃ a : Nat, i = .int .i64 a ∧ a ≤ x.f7.length ∧ Aside0 (Kd.R Kd.string 9 wr wz.heap.size (fun _ => True) v10 (wordsF k x ++ wordsM k x ++ (x.f7.take a).map itoaB)) ∧ Aside0 (Below wz.heap.size wz wr)) (fun _ i _ => x.f7.length - (intOf i).toNat)
              case atStart => exact ⟨0, rfl, by omega, ⟨by simpa using HO.out⟩, HB1⟩
              case round =>
                clear HO HB1
                obtain ⟨a, rfl, ha, HO, HB1⟩ := hrel
                have h7m := HC7.out.2.1
                by_cases hlt : a < x.f7.length
                · obtain ⟨n, hn⟩ : ∃ n, x.f7[a]? = some n := ⟨_, List.getElem?_eq_getElem hlt⟩
                  obtain ⟨ad7, rfl, hc1⟩ := num_at (Kd.C_below HC7.out HZ.out) a n hn
                  have x1 : wr.cell? (ad7.add a) = some (.int .i64 n) := pw_cell_below HB1.out hc1
                  have HRG := Aside0.mk (HRX.out.2 n (List.mem_of_getElem? hn))
                  have HT2 : Aside0 (wordsF k x ++ wordsM k x ++ (x.f7.take (a + 1)).map itoaB = (wordsF k x ++ wordsM k x ++ (x.f7.take a).map itoaB) ++ [itoaB n]) := ⟨by rw [take_next _ _ a n hn, List.append_assoc (wordsF k x ++ wordsM k x)]⟩
                  have HTL : Aside0 (((wordsF k x ++ wordsM k x ++ (x.f7.take a).map itoaB).length + 1) * 16 ≤ 140737488355328) := ⟨by have h1 := HWL.out; rw [wordsK, List.length_append, List.length_map] at h1; rw [List.length_append, List.length_map, List.length_take]; omega⟩
                  clear hc1 hn
                  go_wp2_with (first
                    | (go_at_call 32; refine (itoa_any (n) HRG.out _ (HL.out.below (HZ.out.trans (HB1.out.mono HZ.out.size)))).mono ?_; rintro e w3 ⟨rfl, hb⟩; have n1_ := Aside0.mk (Kd.R_below HO.out hb); have n3_ := Aside0.mk (below_then HB1.out HB1.out.size hb); clear HO HB1 hb; have HO := n1_; have HB1 := n3_; clear n1_ n3_)
                    | ((with_reducible refine gate_builtin (b := .append) (xs := #[.tmp 82, .tmp 85]) rfl ?_); at_builtin; refine Kd.R_append Kd.string (w0 := wz) wz.heap.size rfl (.tmp 82) (.tmp 85) 46 9 (.string ⟨#[]⟩) 16 rfl Tryd.underlying46 info9 rfl (by decide) (by omega) u10 (wordsF k x ++ wordsM k x ++ (x.f7.take a).map itoaB) (itoaB n) [.string (itoaB n)] (fun _ => True) (fun _ => False) rfl rfl ?aP (fun _ hk => hk.elim) ?aF ?aO ?aB ?aS ?aL ?_; (case aP => exact rfl); (case aB => exact HB1.out); (case aF => exact (fun _ _ => trivial)); (case aO => exact HO.out); (case aS => exact HB1.out.size); (case aL => exact HTL.out); intro v7 w7 ho hb hg_ hat_; clear hg_ hat_; have n1_ : Aside0 (Kd.R Kd.string 9 w7 wz.heap.size (fun _ => True) v7 (wordsF k x ++ wordsM k x ++ (x.f7.take a).map itoaB ++ [itoaB n])) := ⟨ho⟩; have n3_ := Aside0.mk hb; clear HO HB1 ho hb; have HO := n1_; have HB1 := n3_; clear n1_ n3_))
                  go_roundw
                  case rel => exact ⟨a + 1, by go_num, by omega, by rw [HT2.out]; exact HO, HB1⟩
                  case measure => simp [intOf]; omega
                · obtain rfl : a = x.f7.length := by omega
                  rw [List.take_length] at HO
                  clear hlt ha
                  have HOW : Aside0 (Kd.R Kd.string 9 wr wz.heap.size (fun _ => True) u10 (wordsX x)) := ⟨by unfold wordsX; rw [HKN.out]; exact HO.out⟩
                  have HBL2 : Aside0 (Lib.IsBuilder 61 5 w.heap.size w.heap.size (Lib.strCells (textOf (l.take j))) wr) := ⟨builder_below HBL.out (HZ0.out.trans (HB1.out.mono HZ0.out.size))⟩
                  go_wp2_with (go_at_call 33; refine (put_any w.heap.size (textOf (l.take j)) (wordsX x) _ HBL2.out HOW.out (by unfold wordsX wordsK wordsF; simp) HSZ.out (HZ.out.trans (HB1.out.mono HZ.out.size)).size).mono ?_; rintro e w9 ⟨rfl, h9, hb⟩; have BL9 := Aside0.mk h9; have HB9 := Aside0.mk ((HZ.out.trans (HB1.out.mono HZ.out.size)).trans hb); clear h9 hb)
                  go_roundw
                  case rel => exact ⟨j + 1, by go_num, by omega, ⟨by rw [HTX.out]; exact BL9.out⟩, HB9, HALL⟩
                  case measure => simp [intOf]; omega
        · have HCL := Aside0.mk hcl
          clear hcl
          go_upto_region 9 with (first | (go_at_call 10; refine (chk_any x A7 c7 _ (Kd.C_below HC7.out (HB.out.trans ((below_alloc (Below.refl _ wo) _).mono HB.out.size))) H7.out).mono ?_; rw [HCK.out]; rintro e w1 ⟨rfl, hb⟩; have BE := Aside0.mk (blk_below (heap_alloc_new wo (.cells (evC x (.slice A7 x.f7.length c7)) 24)) hb); have HE := Aside0.mk ((below_alloc (Below.refl _ wo) (.cells (evC x (.slice A7 x.f7.length c7)) 24)).trans (hb.mono (by rw [size_alloc]; exact Nat.le_succ _))); clear hb) | (go_at_call 23; refine (form_c1 k HK1.out HK2.out HCL.out wo.heap.size x (.slice A7 x.f7.length c7) _ HKK.out BE.out).mono ?_; rintro e w2 ⟨_, rfl, ⟨AF, rfl, hF⟩, hb⟩; have FF := Aside0.mk hF; have n1_ := Aside0.mk (blk_below BE.out hb); have n2_ := Aside0.mk (HE.out.trans (hb.mono HE.out.size)); clear BE HE; have BE := n1_; have HE := n2_; clear n1_ n2_ hF hb))
          have BF := Aside0.mk (heap_alloc_new w2 (.cells #[.string (wordB k), .slice AF (foK k).length (foK k).length, .pointer (some ⟨wo.heap.size, 6, none⟩), .slice none 0 0, .pointer none, .bool false] 48))
          have n1_ := Aside0.mk (blk_below BE.out (bel1 w2 (.cells #[.string (wordB k), .slice AF (foK k).length (foK k).length, .pointer (some ⟨wo.heap.size, 6, none⟩), .slice none 0 0, .pointer none, .bool false] 48)))
          have HZ0 := Aside0.mk (HE.out.trans ((bel1 w2 (.cells #[.string (wordB k), .slice AF (foK k).length (foK k).length, .pointer (some ⟨wo.heap.size, 6, none⟩), .slice none 0 0, .pointer none, .bool false] 48)).mono HE.out.size))
          have n2_ : Aside0 (∀ (j o : Nat), (foK k)[j]? = some o → ∃ ad, AF = some ad ∧ (w2.alloc (.cells #[.string (wordB k), .slice AF (foK k).length (foK k).length, .pointer (some ⟨wo.heap.size, 6, none⟩), .slice none 0 0, .pointer none, .bool false] 48)).cell? (ad.add j) = some (.pointer (some ⟨wo.heap.size, o, none⟩))) := ⟨fun j o hj => by obtain ⟨ad, h1, _, h2⟩ := FF.out j o hj; exact ⟨ad, h1, pw_cell_below (bel1 w2 _) h2⟩⟩
          clear FF BE
          generalize w2.heap.size = g8 at BF ⊢
          generalize w2.alloc (.cells #[.string (wordB k), .slice AF (foK k).length (foK k).length, .pointer (some ⟨wo.heap.size, 6, none⟩), .slice none 0 0, .pointer none, .bool false] 48) = wz at *
          have HZ := Aside0.mk (HB.out.trans (HZ0.out.mono HB.out.size))
          have BE := n1_
          have FF := n2_
          clear n1_ n2_ HE
          have y0 : wz.cell? ⟨g8, 0, none⟩ = some (.string (wordB k)) := (blk_cell BF.out 0).trans rfl
          go_wp2_with (first | ((with_reducible refine gate_dst (N := 32) rfl ?_); refine Kd.R_lit Kd.string (w0 := wz) wz.heap.size 9 ?hg (N := 32) ?hd (xs := [wordB k]) (inner := [.string (wordB k)]) (ok := fun _ => True) (okp := fun _ => True) ?hr ?hp (fun _ hk => hk) trivial ?hb ?hs (by simp) ?_; (case hd => rfl); (case hg => rfl); (case hr => first | (go_simp; done) | (go_simp; rfl)); (case hp => exact (Reps.one (show Kd.M Kd.string _ _ _ (wordB k) [.string (wordB k)] from rfl) (Reps.none _ _))); (case hb => exact Below.refl _ _); (case hs => exact Nat.le_refl _); intro v0 w3 ho hb hg_ hat_; clear hg_ hat_; have HO := Aside0.mk ho; have HB1 := Aside0.mk hb; clear ho hb; have y1 : w3.cell? ⟨g8, 1, none⟩ = some (.slice AF (foK k).length (foK k).length) := cell_keep BF.out HB1.out rfl))
          clear y0 y1
          go_loopw [10, 36] (fun v10 i wr => ∃ a : Nat, i = .int .i64 a ∧ a ≤ (foK k).length ∧ Aside0 (Kd.R Kd.string 9 wr wz.heap.size (fun _ => True) v10 (wordB k :: ((foK k).take a).map (fun o => itoaB (getK x o)))) ∧ Aside0 (Below wz.heap.size wz wr)) (fun _ i _ => (foK k).length - (intOf i).toNat)
          case atStart => exact ⟨0, rfl, by omega, HO, HB1⟩
          case round =>
            clear HO HB1
            obtain ⟨a, rfl, ha, HO, HB1⟩ := hrel
            have hfl := fo_len k
            by_cases hlt : a < (foK k).length
            · obtain ⟨o, ho⟩ : ∃ o, (foK k)[a]? = some o := ⟨_, List.getElem?_eq_getElem hlt⟩
              obtain ⟨ad1, rfl, hc1⟩ := FF.out a o ho
              have ho6 := fo_le k o (List.mem_of_getElem? ho)
              have x1 : wr.cell? (ad1.add a) = some (.pointer (some ⟨wo.heap.size, o, none⟩)) := pw_cell_below HB1.out hc1
              obtain ⟨n, hn⟩ : ∃ n, n = getK x o := ⟨_, rfl⟩
              have x2 : wr.cell? ⟨wo.heap.size, o, none⟩ = some (.int .i64 n) := cell_keep BE.out HB1.out (by rw [hn]; exact ev_get x _ o ho6.1 ho6.2)
              have HRG := Aside0.mk (hn ▸ HRX.out.1 o ho6.2)
              have HT2 : Aside0 (wordB k :: ((foK k).take (a + 1)).map (fun o => itoaB (getK x o)) = (wordB k :: ((foK k).take a).map (fun o => itoaB (getK x o))) ++ [itoaB n]) := ⟨by rw [take_next _ _ a o ho, hn]; rfl⟩
              have HTL : Aside0 (((wordB k :: ((foK k).take a).map (fun o => itoaB (getK x o))).length + 1) * 16 ≤ 140737488355328) := ⟨by rw [List.length_cons, List.length_map, List.length_take]; omega⟩
              clear hc1 ho ho6 hn
              go_wp2_with (first
                | (go_at_call 32; refine (itoa_any (n) HRG.out _ (HL.out.below (HZ.out.trans (HB1.out.mono HZ.out.size)))).mono ?_; rintro e w3 ⟨rfl, hb⟩; have n1_ := Aside0.mk (Kd.R_below HO.out hb); have n3_ := Aside0.mk (below_then HB1.out HB1.out.size hb); clear HO HB1 hb; have HO := n1_; have HB1 := n3_; clear n1_ n3_)
                | ((with_reducible refine gate_builtin (b := .append) (xs := #[.tmp 40, .tmp 45]) rfl ?_); at_builtin; refine Kd.R_append Kd.string (w0 := wz) wz.heap.size rfl (.tmp 40) (.tmp 45) 46 9 (.string ⟨#[]⟩) 16 rfl Tryd.underlying46 info9 rfl (by decide) (by omega) u10 (wordB k :: ((foK k).take a).map (fun o => itoaB (getK x o))) (itoaB n) [.string (itoaB n)] (fun _ => True) (fun _ => False) rfl rfl ?aP (fun _ hk => hk.elim) ?aF ?aO ?aB ?aS ?aL ?_; (case aP => exact rfl); (case aB => exact HB1.out); (case aF => exact (fun _ _ => trivial)); (case aO => exact HO.out); (case aS => exact HB1.out.size); (case aL => exact HTL.out); intro v7 w7 ho hb hg_ hat_; clear hg_ hat_; have n1_ : Aside0 (Kd.R Kd.string 9 w7 wz.heap.size (fun _ => True) v7 (wordB k :: ((foK k).take a).map (fun o => itoaB (getK x o)) ++ [itoaB n])) := ⟨ho⟩; have n3_ := Aside0.mk hb; clear HO HB1 ho hb; have HO := n1_; have HB1 := n3_; clear n1_ n3_))
              go_roundw
              case rel => exact ⟨a + 1, by go_num, by omega, by rw [HT2.out]; exact HO, HB1⟩
              case measure => simp [intOf]; omega
            · obtain rfl : a = (foK k).length := by omega
              rw [List.take_length] at HO
              clear hlt ha
              have HO0 : Aside0 (Kd.R Kd.string 9 wr wz.heap.size (fun _ => True) u10 (wordsF k x)) := HO
              clear HO
              have HO := HO0
              clear HO0
              have z2 : wr.cell? ⟨g8, 2, none⟩ = some (.pointer (some ⟨wo.heap.size, 6, none⟩)) := cell_keep BF.out HB1.out rfl
              have z3 : wr.cell? ⟨g8, 3, none⟩ = some (.slice none 0 0) := cell_keep BF.out HB1.out rfl
              have hu46 := Tryd.underlying46
              have e7 : wr.cell? ⟨wo.heap.size, 7, none⟩ = some (.slice A7 x.f7.length c7) := cell_keep BE.out HB1.out rfl
              have HM : Aside0 (wordsM k x = [itoaB x.f6]) := ⟨by unfold wordsM; rw [HCL.out]; rfl⟩
              have HTL : Aside0 (((wordsF k x).length + 1) * 16 ≤ 140737488355328) := ⟨by unfold wordsF; rw [List.length_cons, List.length_map]; omega⟩
              have x6 : wr.cell? ⟨wo.heap.size, 6, none⟩ = some (.int .i64 x.f6) := cell_keep BE.out HB1.out rfl
              obtain ⟨n6, hn6⟩ : ∃ n, n = x.f6 := ⟨_, rfl⟩
              rw [← hn6] at x6
              have HN6 := Aside0.mk hn6
              have HRG : Aside0 (-9223372036854775808 ≤ n6 ∧ n6 ≤ 9223372036854775807) := ⟨hn6 ▸ HRX.out.1 6 (by omega)⟩
              clear hn6
              go_wp2_with (first
                | (go_at_call 32; refine (itoa_any (n6) HRG.out _ (HL.out.below (HZ.out.trans (HB1.out.mono HZ.out.size)))).mono ?_; rintro e w3 ⟨rfl, hb⟩; have n1_ := Aside0.mk (Kd.R_below HO.out hb); have n3_ := Aside0.mk (below_then HB1.out HB1.out.size hb); clear HO HB1 hb; have HO := n1_; have HB1 := n3_; clear n1_ n3_)
                | ((with_reducible refine gate_builtin (b := .append) (xs := #[.tmp 52, .tmp 58]) rfl ?_); at_builtin; refine Kd.R_append Kd.string (w0 := wz) wz.heap.size rfl (.tmp 52) (.tmp 58) 46 9 (.string ⟨#[]⟩) 16 rfl Tryd.underlying46 info9 rfl (by decide) (by omega) u10 (wordsF k x) (itoaB n6) [.string (itoaB n6)] (fun _ => True) (fun _ => False) rfl rfl ?aP (fun _ hk => hk.elim) ?aF ?aO ?aB ?aS ?aL ?_; (case aP => exact rfl); (case aB => exact HB1.out); (case aF => exact (fun _ _ => trivial)); (case aO => exact HO.out); (case aS => exact HB1.out.size); (case aL => exact HTL.out); intro v7 w7 ho hb hg_ hat_; clear hg_ hat_; have n1_ : Aside0 (Kd.R Kd.string 9 w7 wz.heap.size (fun _ => True) v7 (wordsF k x ++ [itoaB n6])) := ⟨ho⟩; have n3_ := Aside0.mk hb; clear HO HB1 ho hb; have HO := n1_; have HB1 := n3_; clear n1_ n3_; have e8 : w7.cell? ⟨wo.heap.size, 7, none⟩ = some (.slice A7 x.f7.length c7) := cell_keep BE.out HB1.out rfl))
              have HO0 : Aside0 (Kd.R Kd.string 9 w7 wz.heap.size (fun _ => True) v7 (wordsF k x ++ wordsM k x)) := ⟨by rw [HM.out, ← HN6.out]; exact HO.out⟩
              clear HO
              have HO := HO0
              clear HO0
              go_loopw [10, 78] (fun v10 i wr => ∃ a : Nat, i = .int .i64 a ∧ a ≤ x.f7.length ∧ Aside0 (Kd.R Kd.string 9 wr wz.heap.size (fun _ => True) v10 (wordsF k x ++ wordsM k x ++ (x.f7.take a).map itoaB)) ∧ Aside0 (Below wz.heap.size wz wr)) (fun _ i _ => x.f7.length - (intOf i).toNat)
              case atStart => exact ⟨0, rfl, by omega, ⟨by simpa using HO.out⟩, HB1⟩
              case round =>
                clear HO HB1
                obtain ⟨a, rfl, ha, HO, HB1⟩ := hrel
                have h7m := HC7.out.2.1
                by_cases hlt : a < x.f7.length
                · obtain ⟨n, hn⟩ : ∃ n, x.f7[a]? = some n := ⟨_, List.getElem?_eq_getElem hlt⟩
                  obtain ⟨ad7, rfl, hc1⟩ := num_at (Kd.C_below HC7.out HZ.out) a n hn
                  have x1 : wr.cell? (ad7.add a) = some (.int .i64 n) := pw_cell_below HB1.out hc1
                  have HRG := Aside0.mk (HRX.out.2 n (List.mem_of_getElem? hn))
                  have HT2 : Aside0 (wordsF k x ++ wordsM k x ++ (x.f7.take (a + 1)).map itoaB = (wordsF k x ++ wordsM k x ++ (x.f7.take a).map itoaB) ++ [itoaB n]) := ⟨by rw [take_next _ _ a n hn, List.append_assoc (wordsF k x ++ wordsM k x)]⟩
                  have HTL : Aside0 (((wordsF k x ++ wordsM k x ++ (x.f7.take a).map itoaB).length + 1) * 16 ≤ 140737488355328) := ⟨by have h1 := HWL.out; rw [wordsK, List.length_append, List.length_map] at h1; rw [List.length_append, List.length_map, List.length_take]; omega⟩
                  clear hc1 hn
                  go_wp2_with (first
                    | (go_at_call 32; refine (itoa_any (n) HRG.out _ (HL.out.below (HZ.out.trans (HB1.out.mono HZ.out.size)))).mono ?_; rintro e w3 ⟨rfl, hb⟩; have n1_ := Aside0.mk (Kd.R_below HO.out hb); have n3_ := Aside0.mk (below_then HB1.out HB1.out.size hb); clear HO HB1 hb; have HO := n1_; have HB1 := n3_; clear n1_ n3_)
                    | ((with_reducible refine gate_builtin (b := .append) (xs := #[.tmp 82, .tmp 85]) rfl ?_); at_builtin; refine Kd.R_append Kd.string (w0 := wz) wz.heap.size rfl (.tmp 82) (.tmp 85) 46 9 (.string ⟨#[]⟩) 16 rfl Tryd.underlying46 info9 rfl (by decide) (by omega) u10 (wordsF k x ++ wordsM k x ++ (x.f7.take a).map itoaB) (itoaB n) [.string (itoaB n)] (fun _ => True) (fun _ => False) rfl rfl ?aP (fun _ hk => hk.elim) ?aF ?aO ?aB ?aS ?aL ?_; (case aP => exact rfl); (case aB => exact HB1.out); (case aF => exact (fun _ _ => trivial)); (case aO => exact HO.out); (case aS => exact HB1.out.size); (case aL => exact HTL.out); intro v7 w7 ho hb hg_ hat_; clear hg_ hat_; have n1_ : Aside0 (Kd.R Kd.string 9 w7 wz.heap.size (fun _ => True) v7 (wordsF k x ++ wordsM k x ++ (x.f7.take a).map itoaB ++ [itoaB n])) := ⟨ho⟩; have n3_ := Aside0.mk hb; clear HO HB1 ho hb; have HO := n1_; have HB1 := n3_; clear n1_ n3_))
                  go_roundw
                  case rel => exact ⟨a + 1, by go_num, by omega, by rw [HT2.out]; exact HO, HB1⟩
                  case measure => simp [intOf]; omega
                · obtain rfl : a = x.f7.length := by omega
                  rw [List.take_length] at HO
                  clear hlt ha
                  have HOW : Aside0 (Kd.R Kd.string 9 wr wz.heap.size (fun _ => True) u10 (wordsX x)) := ⟨by unfold wordsX; rw [HKN.out]; exact HO.out⟩
                  have HBL2 : Aside0 (Lib.IsBuilder 61 5 w.heap.size w.heap.size (Lib.strCells (textOf (l.take j))) wr) := ⟨builder_below HBL.out (HZ0.out.trans (HB1.out.mono HZ0.out.size))⟩
                  go_wp2_with (go_at_call 33; refine (put_any w.heap.size (textOf (l.take j)) (wordsX x) _ HBL2.out HOW.out (by unfold wordsX wordsK wordsF; simp) HSZ.out (HZ.out.trans (HB1.out.mono HZ.out.size)).size).mono ?_; rintro e w9 ⟨rfl, h9, hb⟩; have BL9 := Aside0.mk h9; have HB9 := Aside0.mk ((HZ.out.trans (HB1.out.mono HZ.out.size)).trans hb); clear h9 hb)
                  go_roundw
                  case rel => exact ⟨j + 1, by go_num, by omega, ⟨by rw [HTX.out]; exact BL9.out⟩, HB9, HALL⟩
                  case measure => simp [intOf]; omega
        · have HCL := Aside0.mk hcl
          clear hcl
          go_upto_region 9 with (first | (go_at_call 10; refine (chk_any x A7 c7 _ (Kd.C_below HC7.out (HB.out.trans ((below_alloc (Below.refl _ wo) _).mono HB.out.size))) H7.out).mono ?_; rw [HCK.out]; rintro e w1 ⟨rfl, hb⟩; have BE := Aside0.mk (blk_below (heap_alloc_new wo (.cells (evC x (.slice A7 x.f7.length c7)) 24)) hb); have HE := Aside0.mk ((below_alloc (Below.refl _ wo) (.cells (evC x (.slice A7 x.f7.length c7)) 24)).trans (hb.mono (by rw [size_alloc]; exact Nat.le_succ _))); clear hb) | (go_at_call 23; refine (form_c2 k HK1.out HK2.out HCL.out wo.heap.size x (.slice A7 x.f7.length c7) _ HKK.out BE.out).mono ?_; rintro e w2 ⟨_, bW, rfl, ⟨AF, rfl, hF⟩, hW, hb⟩; have BW := Aside0.mk hW; clear hW; have FF := Aside0.mk hF; have n1_ := Aside0.mk (blk_below BE.out hb); have n2_ := Aside0.mk (HE.out.trans (hb.mono HE.out.size)); clear BE HE; have BE := n1_; have HE := n2_; clear n1_ n2_ hF hb))
          have BF := Aside0.mk (heap_alloc_new w2 (.cells #[.string (wordB k), .slice AF (foK k).length (foK k).length, .pointer none, .slice (some ⟨bW, 0, none⟩) (wsK k).length (wsK k).length, .pointer (some ⟨wo.heap.size, 6, none⟩), .bool false] 48))
          have n1_ := Aside0.mk (blk_below BE.out (bel1 w2 (.cells #[.string (wordB k), .slice AF (foK k).length (foK k).length, .pointer none, .slice (some ⟨bW, 0, none⟩) (wsK k).length (wsK k).length, .pointer (some ⟨wo.heap.size, 6, none⟩), .bool false] 48)))
          have n3_ := Aside0.mk (blk_below BW.out (bel1 w2 (.cells #[.string (wordB k), .slice AF (foK k).length (foK k).length, .pointer none, .slice (some ⟨bW, 0, none⟩) (wsK k).length (wsK k).length, .pointer (some ⟨wo.heap.size, 6, none⟩), .bool false] 48)))
          clear BW
          have BW := n3_
          clear n3_
          have HZ0 := Aside0.mk (HE.out.trans ((bel1 w2 (.cells #[.string (wordB k), .slice AF (foK k).length (foK k).length, .pointer none, .slice (some ⟨bW, 0, none⟩) (wsK k).length (wsK k).length, .pointer (some ⟨wo.heap.size, 6, none⟩), .bool false] 48)).mono HE.out.size))
          have n2_ : Aside0 (∀ (j o : Nat), (foK k)[j]? = some o → ∃ ad, AF = some ad ∧ (w2.alloc (.cells #[.string (wordB k), .slice AF (foK k).length (foK k).length, .pointer none, .slice (some ⟨bW, 0, none⟩) (wsK k).length (wsK k).length, .pointer (some ⟨wo.heap.size, 6, none⟩), .bool false] 48)).cell? (ad.add j) = some (.pointer (some ⟨wo.heap.size, o, none⟩))) := ⟨fun j o hj => by obtain ⟨ad, h1, _, h2⟩ := FF.out j o hj; exact ⟨ad, h1, pw_cell_below (bel1 w2 _) h2⟩⟩
          clear FF BE
          generalize w2.heap.size = g8 at BF ⊢
          generalize w2.alloc (.cells #[.string (wordB k), .slice AF (foK k).length (foK k).length, .pointer none, .slice (some ⟨bW, 0, none⟩) (wsK k).length (wsK k).length, .pointer (some ⟨wo.heap.size, 6, none⟩), .bool false] 48) = wz at *
          have HZ := Aside0.mk (HB.out.trans (HZ0.out.mono HB.out.size))
          have BE := n1_
          have FF := n2_
          clear n1_ n2_ HE
          have y0 : wz.cell? ⟨g8, 0, none⟩ = some (.string (wordB k)) := (blk_cell BF.out 0).trans rfl
          go_wp2_with (first | ((with_reducible refine gate_dst (N := 32) rfl ?_); refine Kd.R_lit Kd.string (w0 := wz) wz.heap.size 9 ?hg (N := 32) ?hd (xs := [wordB k]) (inner := [.string (wordB k)]) (ok := fun _ => True) (okp := fun _ => True) ?hr ?hp (fun _ hk => hk) trivial ?hb ?hs (by simp) ?_; (case hd => rfl); (case hg => rfl); (case hr => first | (go_simp; done) | (go_simp; rfl)); (case hp => exact (Reps.one (show Kd.M Kd.string _ _ _ (wordB k) [.string (wordB k)] from rfl) (Reps.none _ _))); (case hb => exact Below.refl _ _); (case hs => exact Nat.le_refl _); intro v0 w3 ho hb hg_ hat_; clear hg_ hat_; have HO := Aside0.mk ho; have HB1 := Aside0.mk hb; clear ho hb; have y1 : w3.cell? ⟨g8, 1, none⟩ = some (.slice AF (foK k).length (foK k).length) := cell_keep BF.out HB1.out rfl))
          clear y0 y1
          go_loopw [10, 36] (fun v10 i wr => ∃ a : Nat, i = .int .i64 a ∧ a ≤ (foK k).length ∧ Aside0 (Kd.R Kd.string 9 wr wz.heap.size (fun _ => True) v10 (wordB k :: ((foK k).take a).map (fun o => itoaB (getK x o)))) ∧ Aside0 (Below wz.heap.size wz wr)) (fun _ i _ => (foK k).length - (intOf i).toNat)
          case atStart => exact ⟨0, rfl, by omega, HO, HB1⟩
          case round =>
            clear HO HB1
            obtain ⟨a, rfl, ha, HO, HB1⟩ := hrel
            have hfl := fo_len k
            by_cases hlt : a < (foK k).length
            · obtain ⟨o, ho⟩ : ∃ o, (foK k)[a]? = some o := ⟨_, List.getElem?_eq_getElem hlt⟩
              obtain ⟨ad1, rfl, hc1⟩ := FF.out a o ho
              have ho6 := fo_le k o (List.mem_of_getElem? ho)
              have x1 : wr.cell? (ad1.add a) = some (.pointer (some ⟨wo.heap.size, o, none⟩)) := pw_cell_below HB1.out hc1
              obtain ⟨n, hn⟩ : ∃ n, n = getK x o := ⟨_, rfl⟩
              have x2 : wr.cell? ⟨wo.heap.size, o, none⟩ = some (.int .i64 n) := cell_keep BE.out HB1.out (by rw [hn]; exact ev_get x _ o ho6.1 ho6.2)
              have HRG := Aside0.mk (hn ▸ HRX.out.1 o ho6.2)
              have HT2 : Aside0 (wordB k :: ((foK k).take (a + 1)).map (fun o => itoaB (getK x o)) = (wordB k :: ((foK k).take a).map (fun o => itoaB (getK x o))) ++ [itoaB n]) := ⟨by rw [take_next _ _ a o ho, hn]; rfl⟩
              have HTL : Aside0 (((wordB k :: ((foK k).take a).map (fun o => itoaB (getK x o))).length + 1) * 16 ≤ 140737488355328) := ⟨by rw [List.length_cons, List.length_map, List.length_take]; omega⟩
              clear hc1 ho ho6 hn
              go_wp2_with (first
                | (go_at_call 32; refine (itoa_any (n) HRG.out _ (HL.out.below (HZ.out.trans (HB1.out.mono HZ.out.size)))).mono ?_; rintro e w3 ⟨rfl, hb⟩; have n1_ := Aside0.mk (Kd.R_below HO.out hb); have n3_ := Aside0.mk (below_then HB1.out HB1.out.size hb); clear HO HB1 hb; have HO := n1_; have HB1 := n3_; clear n1_ n3_)
                | ((with_reducible refine gate_builtin (b := .append) (xs := #[.tmp 40, .tmp 45]) rfl ?_); at_builtin; refine Kd.R_append Kd.string (w0 := wz) wz.heap.size rfl (.tmp 40) (.tmp 45) 46 9 (.string ⟨#[]⟩) 16 rfl Tryd.underlying46 info9 rfl (by decide) (by omega) u10 (wordB k :: ((foK k).take a).map (fun o => itoaB (getK x o))) (itoaB n) [.string (itoaB n)] (fun _ => True) (fun _ => False) rfl rfl ?aP (fun _ hk => hk.elim) ?aF ?aO ?aB ?aS ?aL ?_; (case aP => exact rfl); (case aB => exact HB1.out); (case aF => exact (fun _ _ => trivial)); (case aO => exact HO.out); (case aS => exact HB1.out.size); (case aL => exact HTL.out); intro v7 w7 ho hb hg_ hat_; clear hg_ hat_; have n1_ : Aside0 (Kd.R Kd.string 9 w7 wz.heap.size (fun _ => True) v7 (wordB k :: ((foK k).take a).map (fun o => itoaB (getK x o)) ++ [itoaB n])) := ⟨ho⟩; have n3_ := Aside0.mk hb; clear HO HB1 ho hb; have HO := n1_; have HB1 := n3_; clear n1_ n3_))
              go_roundw
              case rel => exact ⟨a + 1, by go_num, by omega, by rw [HT2.out]; exact HO, HB1⟩
              case measure => simp [intOf]; omega
            · obtain rfl : a = (foK k).length := by omega
              rw [List.take_length] at HO
              clear hlt ha
              have HO0 : Aside0 (Kd.R Kd.string 9 wr wz.heap.size (fun _ => True) u10 (wordsF k x)) := HO
              clear HO
              have HO := HO0
              clear HO0
              have z2 : wr.cell? ⟨g8, 2, none⟩ = some (.pointer none) := cell_keep BF.out HB1.out rfl
              have z3 : wr.cell? ⟨g8, 3, none⟩ = some (.slice (some ⟨bW, 0, none⟩) (wsK k).length (wsK k).length) := cell_keep BF.out HB1.out rfl
              have hu46 := Tryd.underlying46
              have e7 : wr.cell? ⟨wo.heap.size, 7, none⟩ = some (.slice A7 x.f7.length c7) := cell_keep BE.out HB1.out rfl
              have x6 : wr.cell? ⟨wo.heap.size, 6, none⟩ = some (.int .i64 x.f6) := cell_keep BE.out HB1.out rfl
              have z4 : wr.cell? ⟨g8, 4, none⟩ = some (.pointer (some ⟨wo.heap.size, 6, none⟩)) := cell_keep BF.out HB1.out rfl
              have hn6 := ws_in k x HCL.out HOK.out HKK.out
              obtain ⟨n6, hn6e, hn6l⟩ : ∃ n : Nat, x.f6 = n ∧ n < (wsK k).length := ⟨x.f6.toNat, by omega, by omega⟩
              rw [hn6e] at x6
              clear hn6
              have HM : Aside0 (wordsM k x = [(wsK k).getD n6 ⟨#[]⟩]) := ⟨by unfold wordsM; rw [HCL.out, hn6e]; rfl⟩
              have xw : wr.cell? ⟨bW, n6, none⟩ = some (.string ((wsK k).getD n6 ⟨#[]⟩)) := cell_keep BW.out HB1.out (by simp [hn6l])
              have HTL : Aside0 (((wordsF k x).length + 1) * 16 ≤ 140737488355328) := ⟨by unfold wordsF; rw [List.length_cons, List.length_map]; omega⟩
              have HX6 : Aside0 ((evC x (.slice A7 x.f7.length c7))[6]? = some (.int .i64 (n6 : Int))) := ⟨by rw [← hn6e]; rfl⟩
              have HXW : Aside0 ((((wsK k).map Value.string).toArray)[n6]? = some (.string ((wsK k).getD n6 ⟨#[]⟩))) := ⟨by simp [hn6l]⟩
              have hwl := ws_len k
              generalize (wsK k).length = nw at *
              generalize (wsK k).getD n6 ⟨#[]⟩ = sw at *
              clear hn6e
              go_wp2_with (fail)
              go_region_held3 (fun X => X.cell? ⟨g8, 3, none⟩ = some (.slice (some ⟨bW, 0, none⟩) nw nw) ∧ X.cell? ⟨g8, 4, none⟩ = some (.pointer (some ⟨wo.heap.size, 6, none⟩)) ∧ X.cell? ⟨wo.heap.size, 6, none⟩ = some (.int .i64 (n6 : Int)) ∧ X.cell? ⟨bW, n6, none⟩ = some (.string sw)) (first | go_keep | exact ⟨cell_keep BF.out HB2.out rfl, cell_keep BF.out HB2.out rfl, cell_keep BE.out HB2.out HX6.out, cell_keep BW.out HB2.out HXW.out⟩)
                (first | (refine Kd.R_append_step Kd.string (w0 := wz) wz.heap.size (by rfl) (.tmp 64) (.tmp 73) 46 9 (.string ⟨#[]⟩) 16 (by rfl) Tryd.underlying46 info9 (by rfl) (by decide) (by omega) u10 (wordsF k x) sw [.string sw] (fun _ => True) (fun _ => False) (by rfl) (by rfl) rfl (fun _ hk => hk.elim) (fun _ _ => trivial) (Kd.R_below HO.out (below_drew (Below.refl _ _))) (HB1.out.drew) HB1.out.size HTL.out ?_; intro v7 w7 ho hb _ _; have HO2 := Aside0.mk ho; have HB2 := Aside0.mk hb; clear ho hb))
              clear HO HB1
              have HO := HO2
              have HB1 := HB2
              clear HO2 HB2
              have e8 : w7.cell? ⟨wo.heap.size, 7, none⟩ = some (.slice A7 x.f7.length c7) := cell_keep BE.out HB1.out rfl
              go_wp2_with (fail)
              have HO0 : Aside0 (Kd.R Kd.string 9 w7 wz.heap.size (fun _ => True) v7 (wordsF k x ++ wordsM k x)) := ⟨by rw [HM.out]; exact HO.out⟩
              clear HO
              have HO := HO0
              clear HO0
              go_loopw [10, 78] (fun v10 i wr => ∃ a : Nat, i = .int .i64 a ∧ a ≤ x.f7.length ∧ Aside0 (Kd.R Kd.string 9 wr wz.heap.size (fun _ => True) v10 (wordsF k x ++ wordsM k x ++ (x.f7.take a).map itoaB)) ∧ Aside0 (Below wz.heap.size wz wr)) (fun _ i _ => x.f7.length - (intOf i).toNat)
              case atStart => exact ⟨0, rfl, by omega, ⟨by simpa using HO.out⟩, HB1⟩
              case round =>
                clear HO HB1
                obtain ⟨a, rfl, ha, HO, HB1⟩ := hrel
                have h7m := HC7.out.2.1
                by_cases hlt : a < x.f7.length
                · obtain ⟨n, hn⟩ : ∃ n, x.f7[a]? = some n := ⟨_, List.getElem?_eq_getElem hlt⟩
                  obtain ⟨ad7, rfl, hc1⟩ := num_at (Kd.C_below HC7.out HZ.out) a n hn
                  have x1 : wr.cell? (ad7.add a) = some (.int .i64 n) := pw_cell_below HB1.out hc1
                  have HRG := Aside0.mk (HRX.out.2 n (List.mem_of_getElem? hn))
                  have HT2 : Aside0 (wordsF k x ++ wordsM k x ++ (x.f7.take (a + 1)).map itoaB = (wordsF k x ++ wordsM k x ++ (x.f7.take a).map itoaB) ++ [itoaB n]) := ⟨by rw [take_next _ _ a n hn, List.append_assoc (wordsF k x ++ wordsM k x)]⟩
                  have HTL : Aside0 (((wordsF k x ++ wordsM k x ++ (x.f7.take a).map itoaB).length + 1) * 16 ≤ 140737488355328) := ⟨by have h1 := HWL.out; rw [wordsK, List.length_append, List.length_map] at h1; rw [List.length_append, List.length_map, List.length_take]; omega⟩
                  clear hc1 hn
                  go_wp2_with (first
                    | (go_at_call 32; refine (itoa_any (n) HRG.out _ (HL.out.below (HZ.out.trans (HB1.out.mono HZ.out.size)))).mono ?_; rintro e w3 ⟨rfl, hb⟩; have n1_ := Aside0.mk (Kd.R_below HO.out hb); have n3_ := Aside0.mk (below_then HB1.out HB1.out.size hb); clear HO HB1 hb; have HO := n1_; have HB1 := n3_; clear n1_ n3_)
                    | ((with_reducible refine gate_builtin (b := .append) (xs := #[.tmp 82, .tmp 85]) rfl ?_); at_builtin; refine Kd.R_append Kd.string (w0 := wz) wz.heap.size rfl (.tmp 82) (.tmp 85) 46 9 (.string ⟨#[]⟩) 16 rfl Tryd.underlying46 info9 rfl (by decide) (by omega) u10 (wordsF k x ++ wordsM k x ++ (x.f7.take a).map itoaB) (itoaB n) [.string (itoaB n)] (fun _ => True) (fun _ => False) rfl rfl ?aP (fun _ hk => hk.elim) ?aF ?aO ?aB ?aS ?aL ?_; (case aP => exact rfl); (case aB => exact HB1.out); (case aF => exact (fun _ _ => trivial)); (case aO => exact HO.out); (case aS => exact HB1.out.size); (case aL => exact HTL.out); intro v7 w7 ho hb hg_ hat_; clear hg_ hat_; have n1_ : Aside0 (Kd.R Kd.string 9 w7 wz.heap.size (fun _ => True) v7 (wordsF k x ++ wordsM k x ++ (x.f7.take a).map itoaB ++ [itoaB n])) := ⟨ho⟩; have n3_ := Aside0.mk hb; clear HO HB1 ho hb; have HO := n1_; have HB1 := n3_; clear n1_ n3_))
                  go_roundw
                  case rel => exact ⟨a + 1, by go_num, by omega, by rw [HT2.out]; exact HO, HB1⟩
                  case measure => simp [intOf]; omega
                · obtain rfl : a = x.f7.length := by omega
                  rw [List.take_length] at HO
                  clear hlt ha
                  have HOW : Aside0 (Kd.R Kd.string 9 wr wz.heap.size (fun _ => True) u10 (wordsX x)) := ⟨by unfold wordsX; rw [HKN.out]; exact HO.out⟩
                  have HBL2 : Aside0 (Lib.IsBuilder 61 5 w.heap.size w.heap.size (Lib.strCells (textOf (l.take j))) wr) := ⟨builder_below HBL.out (HZ0.out.trans (HB1.out.mono HZ0.out.size))⟩
                  go_wp2_with (go_at_call 33; refine (put_any w.heap.size (textOf (l.take j)) (wordsX x) _ HBL2.out HOW.out (by unfold wordsX wordsK wordsF; simp) HSZ.out (HZ.out.trans (HB1.out.mono HZ.out.size)).size).mono ?_; rintro e w9 ⟨rfl, h9, hb⟩; have BL9 := Aside0.mk h9; have HB9 := Aside0.mk ((HZ.out.trans (HB1.out.mono HZ.out.size)).trans hb); clear h9 hb)
                  go_roundw
                  case rel => exact ⟨j + 1, by go_num, by omega, ⟨by rw [HTX.out]; exact BL9.out⟩, HB9, HALL⟩
                  case measure => simp [intOf]; omega
    · obtain rfl : j = l.length := by omega
      rw [List.take_length] at HBL HAL
      have HPR : Aside0 (printOf l = (textOf l, 0)) := ⟨by unfold printOf; rw [if_pos (List.all_eq_true.2 HAL.out)]⟩
      go_wp2_with (go_at_call 34; refine (Tryd.Builder_String_any w.heap.size w.heap.size (textOf l).data.toList _ HBL.out HB.out.size).mono ?_; rintro e w1 ⟨rfl, hb⟩; have HE := Aside0.mk (HB.out.trans hb); clear hb)
      go_ret2
      exact ⟨ret_print (a := (textOf l, 0)) HPR.out.symm, HE.out⟩
end Go.Proofs.YtiapfhlipoomaaaDoor.Given
end
section
namespace Go.Proofs.YtiapfhlipoomaaaDoor.Given
open Go.RowKit Go.Proofs.YtiapfhlipoomaaaDoorW.PrintWords Go.Proofs.YtiapfhlipoomaaaDoorW.PrintLast Go.Proofs.YtiapfhlipoomaaaDoorW.PrintMore Go.Proofs.YtiapfhlipoomaaaDoor.Print
set_option linter.unusedVariables false
set_option linter.unusedSimpArgs false
set_option maxRecDepth 100000 in
set_option maxHeartbeats 2000000 in
theorem number_yes (t : ByteArray) (v : Int) (h : numOf t = some v) (w : World) (hL : LW w) (hsz : t.size ≤ 281474976710656) :
    Calls Tryd.prog 58 #[.string t] w fun e w' => e = .returned (.tuple #[.int .i64 v, .bool true]) ∧ Below w.heap.size w w' := by
  have HV := Aside0.mk h
  have hq : ((itoaB v).toList == t.toList) = true := by simpa using (numOf_some h).2
  have HQ := Aside0.mk (numOf_some h).1
  have HL := Aside0.mk hL
  clear h hL
  go_enter Tryd.func58, Tryd.ntmps58
  go_wp2_with (first
    | (go_at_call 69; refine (atoi_good t v HV.out _ hsz).mono ?_; rintro e w2 ⟨rfl, hb⟩; have HB := Aside0.mk hb; clear hb)
    | (go_at_call 32; refine (itoa_any v HQ.out _ (HL.out.below HB.out)).mono ?_; rintro e w3 ⟨rfl, hb⟩; have n3_ := Aside0.mk (below_step HB.out hb); clear HB hb; have HB := n3_; clear n3_))
  go_ret2
  exact ⟨rfl, HB.out⟩
set_option maxRecDepth 100000 in
set_option maxHeartbeats 2000000 in
theorem number_no (t : ByteArray) (h : numOf t = none) (w : World) (hL : LW w) (hsz : t.size ≤ 281474976710656) :
    Calls Tryd.prog 58 #[.string t] w fun e w' => (∃ v : Int, e = .returned (.tuple #[.int .i64 v, .bool false])) ∧ Below w.heap.size w w' := by
  have HV := Aside0.mk h
  have HL := Aside0.mk hL
  clear h hL
  go_enter Tryd.func58, Tryd.ntmps58
  go_wp2_with (first
    | (go_at_call 69; refine (atoi_bad t HV.out _ HL.out hsz).mono ?_))
  rintro e w2 ⟨v, er, rfl, h, hb⟩
  have HB := Aside0.mk hb
  clear hb
  rcases h with ⟨a, rfl⟩ | ⟨rfl, hr, hq⟩
  · go_wp2
    go_ret2
    exact ⟨⟨_, rfl⟩, HB.out⟩
  · have HR := Aside0.mk hr
    clear hr
    go_wp2_with (first
      | (go_at_call 32; refine (itoa_any v HR.out _ (HL.out.below HB.out)).mono ?_; rintro e w3 ⟨rfl, hb⟩; have n3_ := Aside0.mk (below_step HB.out hb); clear HB hb; have HB := n3_; clear n3_))
    go_ret2
    exact ⟨⟨_, rfl⟩, HB.out⟩
end Go.Proofs.YtiapfhlipoomaaaDoor.Given
end
section
namespace Go.Proofs.YtiapfhlipoomaaaDoor.Print
open Go.RowKit
open Go.RowKit Go.Proofs.YtiapfhlipoomaaaDoorW.PrintWords Go.Proofs.YtiapfhlipoomaaaDoorW.PrintLast Go.Proofs.YtiapfhlipoomaaaDoorW.PrintMore
attribute [local go_sem] max2_int min2_int max_two min_two max_three min_three max_four min_four
set_option linter.unusedVariables false
set_option linter.unusedSimpArgs false
def slices_Index_string_string.l0 : Nat → List ByteArray → ByteArray → Int → Int → Option (Int)
  | 0, _, _, _, _ => none
  | k + 1, x0, x1, x7, x8 => if x8 < x7 then (if 0 ≤ x8 then (if x8 < (x0.length : Int) then (if x1.toList = (rdOf ByteArray.empty x0 x8).toList then (some x8) else (slices_Index_string_string.l0 k x0 x1 x7 (wrap64 (x8 + 1)))) else (none)) else (none)) else (some (-1))
def slices_Index_string_string.f (k : Nat) (l0 : List ByteArray) (a1 : ByteArray) : Option (Int) := slices_Index_string_string.l0 k l0 a1 (l0.length : Int) 0
theorem slices_Index_string_string.mono_l : ∀ k, (∀ y0 y1 y2 y3, LeO (slices_Index_string_string.l0 k y0 y1 y2 y3) (slices_Index_string_string.l0 (k + 1) y0 y1 y2 y3))
  | 0 => fun _ _ _ _ r h => by simp [slices_Index_string_string.l0] at h
  | k + 1 => by
    have ih0 := slices_Index_string_string.mono_l k
    · intro y0 y1 y2 y3
      unfold slices_Index_string_string.l0
      repeat' first
      | (with_reducible exact ih0 _ _ _ _)
      | (with_reducible exact LeO.refl _)
      | (with_reducible exact LeO.none _)
      | (with_reducible refine LeO.ite ?_ ?_)
      | (with_reducible refine LeO.bind ?_ (fun _ => ?_))
      | exact ih0 _ _ _ _
      | exact LeO.none _
      | refine LeO.ite ?_ ?_
      | refine LeO.bind ?_ (fun _ => ?_)
theorem slices_Index_string_string.mono : ∀ a0 a1 k, LeO (slices_Index_string_string.f k a0 a1) (slices_Index_string_string.f (k + 1) a0 a1) := by
  intro a0 a1 k
  have ih0 := slices_Index_string_string.mono_l k
  unfold slices_Index_string_string.f
  repeat' first
      | (with_reducible exact ih0 _ _ _ _)
      | (with_reducible exact LeO.refl _)
      | (with_reducible exact LeO.none _)
      | (with_reducible refine LeO.ite ?_ ?_)
      | (with_reducible refine LeO.bind ?_ (fun _ => ?_))
      | exact ih0 _ _ _ _
      | exact LeO.none _
      | refine LeO.ite ?_ ?_
      | refine LeO.bind ?_ (fun _ => ?_)
set_option maxHeartbeats 8000000 in
set_option maxRecDepth 100000 in
theorem slices_Index_string_string.calls (k : Nat) (A0 : Option Addr) (c0 : Nat) (l0 : List ByteArray) (a1 : ByteArray) (r : Int) (w : World) (hr0 : Kd.C Kd.string w A0 l0.length l0) (hc0 : l0.length ≤ c0) (h : slices_Index_string_string.f k l0 a1 = some r) :
    Calls Tryd.prog 59 #[.slice A0 l0.length c0, .string a1] w fun e w' => e = .returned (.int .i64 r) ∧ Drawn0 w w' := by
  have HR0 := Aside0.mk hr0
  have HC0 := Aside0.mk hc0
  clear hr0 hc0
  have H : (slices_Index_string_string.l0 k l0 a1 (l0.length : Int) 0) = some r := h
  clear h
  have H' := Aside0.mk H
  clear H
  go_enter Tryd.func59, Tryd.ntmps59
  go_wp2
  go_loopg [8] k (fun kq v8 w' => ∃ (x8_1 : Int), v8 = .int .i64 x8_1 ∧ Aside0 (slices_Index_string_string.l0 kq l0 a1 (l0.length : Int) x8_1 = some r) ∧ Aside0 (kq ≤ k) ∧ Drawn0 w w')
  case atStart => exact ⟨(0), (by first | rfl | (simp; done) | (simp [*]; done)), H', ⟨Nat.le_refl _⟩, by repeat (first | exact Drawn0.refl _ | apply Drawn0.step)⟩
  case round =>
    clear H'
    try clear p2
    obtain ⟨x8_1, rfl, HA, HK1, ⟨m1, rfl⟩⟩ := hrel
    cases gk with
    | zero => exact absurd HA.out (by simp [slices_Index_string_string.l0])
    | succ k1 =>
      have H := HA.out
      clear HA
      simp only [slices_Index_string_string.l0] at H
      by_cases c3 : x8_1 < (l0.length : Int)
      · rw [if_pos c3] at H
        have c3b0 : decide (x8_1 < (l0.length : Int)) = true := decide_eq_true c3
        clear c3
        by_cases c4 : 0 ≤ x8_1
        · rw [if_pos c4] at H
          have c4b0 : decide (0 ≤ x8_1) = true := decide_eq_true c4
          clear c4
          by_cases c5 : x8_1 < (l0.length : Int)
          · rw [if_pos c5] at H
            have c5b0 : decide (x8_1 < (l0.length : Int)) = true := decide_eq_true c5
            clear c5
            by_cases c6 : a1.toList = (rdOf ByteArray.empty l0 x8_1).toList
            · rw [if_pos c6] at H
              have c6b0 : (a1.toList == (rdOf ByteArray.empty l0 x8_1).toList) = true := beq_iff_eq.mpr c6
              have c6b1 : (a1.toList != (rdOf ByteArray.empty l0 x8_1).toList) = false := bne_eq_false_iff_eq.mpr c6
              clear c6
              obtain rfl := Option.some.inj H
              have p152 : 0 ≤ (x8_1 : Int) := of_decide_eq_true (by first | (with_reducible assumption) | assumption)
              have q152 : x8_1 < (l0.length : Int) := of_decide_eq_true (by first | (with_reducible assumption) | assumption)
              obtain ⟨ad152, e152, hx152_0⟩ := Kd.at_string HR0.out x8_1 p152 q152
              cases e152
              replace p152 := eq_true p152
              replace q152 := eq_true q152
              go_wp2
              go_ret
              exact ⟨by first | rfl | (simp; done) | (simp [*]; done), by repeat (first | exact Drawn0.refl _ | apply Drawn0.step)⟩
            · rw [if_neg c6] at H
              have c6b0 : (a1.toList == (rdOf ByteArray.empty l0 x8_1).toList) = false := beq_eq_false_iff_ne.mpr c6
              have c6b1 : (a1.toList != (rdOf ByteArray.empty l0 x8_1).toList) = true := bne_iff_ne.mpr c6
              have H' := Aside0.mk H
              clear H
              have p152 : 0 ≤ (x8_1 : Int) := of_decide_eq_true (by first | (with_reducible assumption) | assumption)
              have q152 : x8_1 < (l0.length : Int) := of_decide_eq_true (by first | (with_reducible assumption) | assumption)
              obtain ⟨ad152, e152, hx152_0⟩ := Kd.at_string HR0.out x8_1 p152 q152
              cases e152
              replace p152 := eq_true p152
              replace q152 := eq_true q152
              go_wp2
              go_roundg k1
              case measure => have := HK1.out; omega
              case rel => exact ⟨(wrap64 (x8_1 + 1)), (by first | rfl | (simp; done) | (simp [*]; done)), H', ⟨by have := HK1.out; omega⟩, by repeat (first | exact Drawn0.refl _ | apply Drawn0.step)⟩
          · rw [if_neg c5] at H
            exact absurd H (by simp)
        · rw [if_neg c4] at H
          exact absurd H (by simp)
      · rw [if_neg c3] at H
        have c3b0 : decide (x8_1 < (l0.length : Int)) = false := decide_eq_false c3
        clear c3
        obtain rfl := Option.some.inj H
        go_wp2
        go_ret
        exact ⟨by first | rfl | (simp; done) | (simp [*]; done), by repeat (first | exact Drawn0.refl _ | apply Drawn0.step)⟩
def squintlaw18_more.f (a0 : Int) (a1 : Int) : Option (Int) := if a0 > 2147483647 then (some 2147483648) else (if a1 > (wrap64 (2147483647 - a0)) then (some 2147483648) else (some (wrap64 (a0 + a1))))
set_option maxHeartbeats 8000000 in
set_option maxRecDepth 100000 in
theorem squintlaw18_more.calls (a0 : Int) (a1 : Int) (r : Int) (w : World) (h : squintlaw18_more.f a0 a1 = some r) :
    Calls Tryd.prog 31 #[.int .i64 a0, .int .i64 a1] w fun e w' => e = .returned (.int .i64 r) ∧ Drawn0 w w' := by
  have H : (if a0 > 2147483647 then (some 2147483648) else (if a1 > (wrap64 (2147483647 - a0)) then (some 2147483648) else (some (wrap64 (a0 + a1))))) = some r := h
  clear h
  by_cases c3 : a0 > 2147483647
  · rw [if_pos c3] at H
    have c3b0 : decide (2147483647 < a0) = true := decide_eq_true c3
    clear c3
    obtain rfl := Option.some.inj H
    go_enter Tryd.func31, Tryd.ntmps31
    go_wp2
    go_ret
    exact ⟨by first | rfl | (simp; done) | (simp [*]; done), by repeat (first | exact Drawn0.refl _ | apply Drawn0.step)⟩
  · rw [if_neg c3] at H
    have c3b0 : decide (2147483647 < a0) = false := decide_eq_false c3
    clear c3
    by_cases c4 : a1 > (wrap64 (2147483647 - a0))
    · rw [if_pos c4] at H
      have c4b0 : decide ((wrap64 (2147483647 - a0)) < a1) = true := decide_eq_true c4
      clear c4
      obtain rfl := Option.some.inj H
      go_enter Tryd.func31, Tryd.ntmps31
      go_wp2
      go_ret
      exact ⟨by first | rfl | (simp; done) | (simp [*]; done), by repeat (first | exact Drawn0.refl _ | apply Drawn0.step)⟩
    · rw [if_neg c4] at H
      have c4b0 : decide ((wrap64 (2147483647 - a0)) < a1) = false := decide_eq_false c4
      clear c4
      obtain rfl := Option.some.inj H
      go_enter Tryd.func31, Tryd.ntmps31
      go_wp2
      go_ret
      exact ⟨by first | rfl | (simp; done) | (simp [*]; done), by repeat (first | exact Drawn0.refl _ | apply Drawn0.step)⟩
mutual
def squintlaw18_beyond.l0 : Nat → List (S24) → Int → Int → Option (Bool)
  | 0, _, _, _ => none
  | k + 1, x0, x3, x4 => if x4 < (x0.length : Int) then (squintlaw18_beyond.j1 k x0 x3 x4 (decide (x3 ≤ 2147483647))) else (squintlaw18_beyond.j1 k x0 x3 x4 false)
def squintlaw18_beyond.j1 : Nat → List (S24) → Int → Int → Bool → Option (Bool)
  | 0, _, _, _, _ => none
  | k + 1, x0, x3, x4, x13 => if x13 = true then ((squintlaw18_more.f x3 120).bind fun t179 => (if 0 ≤ x4 then (if x4 < (x0.length : Int) then (if (((rd_T24 x0 x4).f7).length : Int) > 102261126 then (some true) else ((squintlaw18_more.f t179 (wrap64 ((((rd_T24 x0 x4).f7).length : Int) * 21))).bind fun t181 => (squintlaw18_beyond.l0 k x0 t181 (wrap64 (x4 + 1))))) else (none)) else (none))) else (some (decide (x3 > 2147483647)))
end
def squintlaw18_beyond.f (k : Nat) (l0 : List (S24)) : Option (Bool) := squintlaw18_beyond.l0 k l0 0 0
set_option maxHeartbeats 8000000 in
set_option maxRecDepth 100000 in
theorem squintlaw18_beyond.calls (k : Nat) (A0 : Option Addr) (c0 : Nat) (l0 : List (S24)) (r : Bool) (w : World) (hr0 : Kd.C k24 w A0 l0.length l0) (hc0 : l0.length ≤ c0) (h : squintlaw18_beyond.f k l0 = some r) :
    Calls Tryd.prog 12 #[.slice A0 l0.length c0] w fun e w' => e = .returned (.bool r) ∧ Drawn0 w w' := by
  have HR0 := Aside0.mk hr0
  have HC0 := Aside0.mk hc0
  clear hr0 hc0
  have H : (squintlaw18_beyond.l0 k l0 0 0) = some r := h
  clear h
  have H' := Aside0.mk H
  clear H
  go_enter Tryd.func12, Tryd.ntmps12
  go_wp2
  go_loopg [3, 4] k (fun kq v3 v4 w' => ∃ (x3_1 : Int) (x4_1 : Int), v3 = .int .i64 x3_1 ∧ v4 = .int .i64 x4_1 ∧ Aside0 (squintlaw18_beyond.l0 kq l0 x3_1 x4_1 = some r) ∧ Aside0 (kq ≤ k) ∧ Drawn0 w w')
  case atStart => exact ⟨(0), (0), (by first | rfl | (simp; done) | (simp [*]; done)), (by first | rfl | (simp; done) | (simp [*]; done)), H', ⟨Nat.le_refl _⟩, by repeat (first | exact Drawn0.refl _ | apply Drawn0.step)⟩
  case round =>
    clear H'
    try clear c1
    obtain ⟨x3_1, x4_1, rfl, rfl, HA, HK1, ⟨m1, rfl⟩⟩ := hrel
    cases gk with
    | zero => exact absurd HA.out (by simp [squintlaw18_beyond.l0])
    | succ k1 =>
      have H := HA.out
      clear HA
      simp only [squintlaw18_beyond.l0] at H
      have HC2 := Aside0.mk H
      clear H
      go_upto_region 3 with (fail)
      go_cut [13] (fun v13 wc => ∃ (kq : Nat) (x13_1 : Bool), v13 = .bool x13_1 ∧ Aside0 (squintlaw18_beyond.j1 kq l0 x3_1 x4_1 x13_1 = some r) ∧ Aside0 (kq ≤ k1) ∧ Drawn0 w wc)
      case first =>
        have H := HC2.out
        clear HC2
        by_cases c3 : x4_1 < (l0.length : Int)
        · rw [if_pos c3] at H
          have c3b0 : decide (x4_1 < (l0.length : Int)) = true := decide_eq_true c3
          clear c3
          (first | rw [c3b0] | (simp only [i64_w, i32_w]; rw [c3b0]) | skip)
          have H' := Aside0.mk H
          clear H
          go_wp2
          go_meet
          case rel => exact ⟨_, (decide (x3_1 ≤ 2147483647)), (by first | rfl | (simp; done) | (simp [*]; done)), H', ⟨by have := HK1.out; first | omega | exact Nat.le_refl _⟩, by repeat (first | exact Drawn0.refl _ | apply Drawn0.step)⟩
        · rw [if_neg c3] at H
          have c3b0 : decide (x4_1 < (l0.length : Int)) = false := decide_eq_false c3
          clear c3
          (first | rw [c3b0] | (simp only [i64_w, i32_w]; rw [c3b0]) | skip)
          have H' := Aside0.mk H
          clear H
          go_wp2
          go_meet
          case rel => exact ⟨_, (false), (by first | rfl | (simp; done) | (simp [*]; done)), H', ⟨by have := HK1.out; first | omega | exact Nat.le_refl _⟩, by repeat (first | exact Drawn0.refl _ | apply Drawn0.step)⟩
      case rest =>
        clear HC2
        try clear c1
        try clear p2
        try clear c3
        try clear c3b0
        obtain ⟨kq, x13_1, rfl, HA, HJ1, ⟨mc1, rfl⟩⟩ := hcut
        cases kq with
        | zero => exact absurd HA.out (by simp [squintlaw18_beyond.j1])
        | succ kj1 =>
          have H := HA.out
          clear HA
          simp only [squintlaw18_beyond.j1] at H
          by_cases c4 : x13_1 = true
          · subst c4
            have H1 : ((squintlaw18_more.f x3_1 120).bind fun t179 => (if 0 ≤ x4_1 then (if x4_1 < (l0.length : Int) then (if (((rd_T24 l0 x4_1).f7).length : Int) > 102261126 then (some true) else ((squintlaw18_more.f t179 (wrap64 ((((rd_T24 l0 x4_1).f7).length : Int) * 21))).bind fun t181 => (squintlaw18_beyond.l0 kj1 l0 t181 (wrap64 (x4_1 + 1))))) else (none)) else (none))) = some r := by rw [if_pos rfl] at H; exact H
            clear H
            have H := H1
            clear H1
            replace H := Option.bind_eq_some_iff.mp H
            obtain ⟨t179, A50, H⟩ := H
            replace H : (if 0 ≤ x4_1 then (if x4_1 < (l0.length : Int) then (if (((rd_T24 l0 x4_1).f7).length : Int) > 102261126 then (some true) else ((squintlaw18_more.f t179 (wrap64 ((((rd_T24 l0 x4_1).f7).length : Int) * 21))).bind fun t181 => (squintlaw18_beyond.l0 kj1 l0 t181 (wrap64 (x4_1 + 1))))) else (none)) else (none)) = some r := H
            have A5 := Aside0.mk A50
            clear A50
            by_cases c6 : 0 ≤ x4_1
            · rw [if_pos c6] at H
              have c6b0 : decide (0 ≤ x4_1) = true := decide_eq_true c6
              clear c6
              by_cases c7 : x4_1 < (l0.length : Int)
              · rw [if_pos c7] at H
                have c7b0 : decide (x4_1 < (l0.length : Int)) = true := decide_eq_true c7
                clear c7
                by_cases c8 : (((rd_T24 l0 x4_1).f7).length : Int) > 102261126
                · rw [if_pos c8] at H
                  have c8b0 : decide (102261126 < (((rd_T24 l0 x4_1).f7).length : Int)) = true := decide_eq_true c8
                  have c8b1 : decide (102261126 < ((rd_T24 l0 x4_1).f7).length) = true := decide_eq_true (by omega)
                  clear c8
                  obtain rfl := Option.some.inj H
                  go_wp2_with (first | ((with_reducible refine gate_callee (f := 31) rfl ?_); refine goesL_ (some 17) rfl rfl Tryd.func31 (by kernel_rfl) rfl #[.int .i64 x3_1, .int .i64 120] rfl (by (try simp only [List.map_toArray, List.map_cons, List.map_nil]); first | done | rfl | (simp only [List.length_drop, List.length_take]; rfl)) ?_; (with_reducible refine (squintlaw18_more.calls x3_1 120 t179 _ A5.out).mono ?_); rintro e w' ⟨rfl, ⟨nd, rfl⟩⟩; refine ⟨_, rfl, ?_⟩; have p180 : 0 ≤ (x4_1 : Int) := of_decide_eq_true (by first | (with_reducible assumption) | assumption); have q180 : x4_1 < (l0.length : Int) := of_decide_eq_true (by first | (with_reducible assumption) | assumption); obtain ⟨ad180, A180_7, c180_7, e180, hx180_0, hx180_1, hx180_2, hx180_3, hx180_4, hx180_5, hx180_6, hx180_7, hl180_7, hi180_7⟩ := at_T24 HR0.out x4_1 p180 q180; cases e180; have HR180_7 := Aside0.mk hi180_7; have HC180_7 := Aside0.mk hl180_7; clear hi180_7 hl180_7; replace p180 := eq_true p180; replace q180 := eq_true q180))
                  go_ret
                  exact ⟨by first | rfl | (simp; done) | (simp [*]; done), by repeat (first | exact Drawn0.refl _ | apply Drawn0.step)⟩
                · rw [if_neg c8] at H
                  have c8b0 : decide (102261126 < (((rd_T24 l0 x4_1).f7).length : Int)) = false := decide_eq_false c8
                  have c8b1 : decide (102261126 < ((rd_T24 l0 x4_1).f7).length) = false := decide_eq_false (by omega)
                  clear c8
                  replace H := Option.bind_eq_some_iff.mp H
                  obtain ⟨t181, A90, H⟩ := H
                  replace H : (squintlaw18_beyond.l0 kj1 l0 t181 (wrap64 (x4_1 + 1))) = some r := H
                  have A9 := Aside0.mk A90
                  clear A90
                  have H' := Aside0.mk H
                  clear H
                  go_wp2_with (first | ((with_reducible refine gate_callee (f := 31) rfl ?_); refine goesL_ (some 17) rfl rfl Tryd.func31 (by kernel_rfl) rfl #[.int .i64 x3_1, .int .i64 120] rfl (by (try simp only [List.map_toArray, List.map_cons, List.map_nil]); first | done | rfl | (simp only [List.length_drop, List.length_take]; rfl)) ?_; (with_reducible refine (squintlaw18_more.calls x3_1 120 t179 _ A5.out).mono ?_); rintro e w' ⟨rfl, ⟨nd, rfl⟩⟩; refine ⟨_, rfl, ?_⟩; have p180 : 0 ≤ (x4_1 : Int) := of_decide_eq_true (by first | (with_reducible assumption) | assumption); have q180 : x4_1 < (l0.length : Int) := of_decide_eq_true (by first | (with_reducible assumption) | assumption); obtain ⟨ad180, A180_7, c180_7, e180, hx180_0, hx180_1, hx180_2, hx180_3, hx180_4, hx180_5, hx180_6, hx180_7, hl180_7, hi180_7⟩ := at_T24 HR0.out x4_1 p180 q180; cases e180; have HR180_7 := Aside0.mk hi180_7; have HC180_7 := Aside0.mk hl180_7; clear hi180_7 hl180_7; replace p180 := eq_true p180; replace q180 := eq_true q180) | ((with_reducible refine gate_callee (f := 31) rfl ?_); refine goesL_ (some 29) rfl rfl Tryd.func31 (by kernel_rfl) rfl #[.int .i64 t179, .int .i64 (wrap64 ((((rd_T24 l0 x4_1).f7).length : Int) * 21))] rfl (by (try simp only [List.map_toArray, List.map_cons, List.map_nil]); first | done | rfl | (simp only [List.length_drop, List.length_take]; rfl)) ?_; (with_reducible refine (squintlaw18_more.calls t179 (wrap64 ((((rd_T24 l0 x4_1).f7).length : Int) * 21)) t181 _ A9.out).mono ?_); rintro e w' ⟨rfl, ⟨nd, rfl⟩⟩; refine ⟨_, rfl, ?_⟩))
                  go_roundg kj1
                  case measure => have := HK1.out; have := HJ1.out; omega
                  case rel => exact ⟨(t181), (wrap64 (x4_1 + 1)), (by first | rfl | (simp; done) | (simp [*]; done)), (by first | rfl | (simp; done) | (simp [*]; done)), H', ⟨by have := HK1.out; have := HJ1.out; omega⟩, by repeat (first | exact Drawn0.refl _ | apply Drawn0.step)⟩
              · rw [if_neg c7] at H
                exact absurd H (by simp)
            · rw [if_neg c6] at H
              exact absurd H (by simp)
          · replace c4 := Bool.eq_false_iff.mpr c4
            subst c4
            have H1 : (some (decide (x3_1 > 2147483647))) = some r := by rw [if_neg (show ¬ (false = true) by decide)] at H; exact H
            clear H
            have H := H1
            clear H1
            obtain rfl := Option.some.inj H
            go_wp2
            go_ret
            exact ⟨by first | rfl | (simp; done) | (simp [*]; done), by repeat (first | exact Drawn0.refl _ | apply Drawn0.step)⟩
end Go.Proofs.YtiapfhlipoomaaaDoor.Print
end
section
namespace Go.Proofs.YtiapfhlipoomaaaDoor.Given
open Go.RowKit Go.Proofs.YtiapfhlipoomaaaDoorW.PrintWords Go.Proofs.YtiapfhlipoomaaaDoorW.PrintLast Go.Proofs.YtiapfhlipoomaaaDoorW.PrintMore Go.Proofs.YtiapfhlipoomaaaDoor.Print
set_option linter.unusedVariables false
set_option linter.unusedSimpArgs false
def fillNums : List Nat → List ByteArray → S24 → Option (S24 × List ByteArray)
  | [], ws, x => some (x, ws)
  | _ :: _, [], _ => none
  | o :: r, t :: ws, x => match numOf t with
    | some n => fillNums r ws (setK x n o)
    | none => none
def idxB : List ByteArray → ByteArray → Nat → Int
  | [], _, _ => -1
  | a :: l, t, k => if t.toList = a.toList then (k : Int) else idxB l t (k + 1)
def fillWord (k : Nat) (p : S24 × List ByteArray) : Option (S24 × List ByteArray) :=
  if clsK k = 2 then match p.2 with
    | [] => none
    | t :: r => if t.toList = [] then none else some (setK p.1 (idxB (wsK k) t 0) 6, r)
  else some p
def fillRest (p : S24 × List ByteArray) : Option S24 := (numsIn p.2).bind fun l =>
  if okX ⟨p.1.f0, p.1.f1, p.1.f2, p.1.f3, p.1.f4, p.1.f5, p.1.f6, l⟩ = true then some ⟨p.1.f0, p.1.f1, p.1.f2, p.1.f3, p.1.f4, p.1.f5, p.1.f6, l⟩ else none
def fillOf (k : Nat) (ws : List ByteArray) : Option S24 := ((fillNums (atK k) ws ⟨k, 0, 0, 0, 0, 0, 0, []⟩).bind (fillWord k)).bind fillRest
theorem at_le (k o : Nat) (h : o ∈ atK k) : 1 ≤ o ∧ o ≤ 6 := by
  unfold atK at h
  rcases List.mem_append.1 h with h | h
  · exact fo_le k o h
  · split at h
    · simp only [List.mem_singleton] at h; omega
    · cases h
theorem at_len (k : Nat) : (atK k).length ≤ 6 := by
  unfold atK
  have := fo_len k
  rw [List.length_append]
  split <;> simp <;> omega
theorem index_from (l : List ByteArray) (t : ByteArray) (hs : l.length ≤ 7) : ∀ (m k : Nat), k + m = l.length → slices_Index_string_string.l0 (m + 1) l t (l.length : Int) (k : Int) = some (idxB (l.drop k) t k)
  | 0, k, h => by
    unfold slices_Index_string_string.l0
    rw [if_neg (by omega), List.drop_of_length_le (by omega)]
    rfl
  | m + 1, k, h => by
    unfold slices_Index_string_string.l0
    have ha : k < l.length := by omega
    rw [if_pos (by omega), if_pos (by omega), if_pos (by omega), wrap_small _ (by omega) (by omega)]
    have ra : rdOf ByteArray.empty l (k : Int) = l[k] := by simp [rdOf, ha]
    rw [ra, List.drop_eq_getElem_cons ha]
    by_cases he : t.toList = l[k].toList
    · rw [if_pos he, idxB, if_pos he]
    · rw [if_neg he, idxB, if_neg he]
      have := index_from l t hs m (k + 1) (by omega)
      rwa [show ((k : Int) + 1) = ((k + 1 : Nat) : Int) by omega]
theorem index_says (l : List ByteArray) (t : ByteArray) (hs : l.length ≤ 7) : slices_Index_string_string.f (l.length + 1) l t = some (idxB l t 0) := by
  unfold slices_Index_string_string.f
  have := index_from l t hs l.length 0 (by omega)
  simpa using this
theorem index_any (b : Nat) (l : List ByteArray) (t : ByteArray) (w : World) (hs : l.length ≤ 7) (h : w.heap[b]? = some (.cells (l.map Value.string).toArray 9 (0, 0))) :
    Calls Tryd.prog 59 #[.slice (some ⟨b, 0, none⟩) l.length l.length, .string t] w fun e w' => e = .returned (.int .i64 (idxB l t 0)) ∧ Drawn0 w w' := by
  refine slices_Index_string_string.calls (l.length + 1) _ _ l t _ w ?_ (Nat.le_refl _) (index_says l t hs)
  refine Kd.C_of_reads (enc := Value.string) (d := ByteArray.empty) (h1 := fun _ => rfl) ⟨rfl, by omega, fun _ => ⟨_, rfl, fun j hj => ?_⟩⟩
  have e2 : (⟨b, 0, none⟩ : Addr).add j = ⟨b, j, none⟩ := by simp [Addr.add]; exact Eq.symm
  rw [e2, blk_cell h j]
  simp [hj]
def WordsIn (w : World) (g : Nat) (A : Option Addr) (ws : List ByteArray) : Prop := (∀ ad, A = some ad → ad.block ≠ g) ∧ ∀ (j : Nat) t, ws[j]? = some t → ∃ ad, A = some ad ∧ w.cell? (ad.add j) = some (.string t)
theorem WordsIn.below {w w' : World} {g : Nat} {A : Option Addr} {ws : List ByteArray} (h : WordsIn w g A ws) (hb : Below w.heap.size w w') : WordsIn w' g A ws := ⟨h.1, fun j t hj => by
  obtain ⟨ad, ha, hc⟩ := h.2 j t hj
  exact ⟨ad, ha, pw_cell_below hb hc⟩⟩
theorem add_one_add (ad : Addr) (j : Nat) : (ad.add 1).add j = ad.add (1 + j) := by
  by_cases hj : j = 0
  · subst hj
    rfl
  · simp [Addr.add, hj, Nat.add_assoc]
theorem words_tail {w : World} {A : Option Addr} {t : ByteArray} {r : List ByteArray} {g : Nat} (h : WordsIn w g A (t :: r)) (c : Nat) (hc : r.length + 1 ≤ c) :
    ∃ A1, (∀ W : World, (Instr.slice 46 (.slice A (r.length + 1) c) (some (.int .i64 1)) none none).run Tryd.prog W = .ok (.slice A1 r.length (c - 1)) W) ∧ WordsIn w g A1 r := by
  obtain ⟨i0, hi0, _, hsz, _⟩ := info_parts info9
  have h0 := cut_from (P := Tryd.prog) 46 9 .i64 Tryd.underlying46 hi0 1 hsz A (r.length + 1) c 1 (by omega) (by omega)
  refine ⟨if c = 1 then A else A.map (·.add 1), fun W => by simpa using h0 W, fun ad had => ?_, fun j s hj => ?_⟩
  · split at had
    · exact h.1 ad had
    · obtain ⟨ad0, h1, rfl⟩ := Option.map_eq_some_iff.1 had
      rw [add_block]
      exact h.1 ad0 h1
  have hj2 := (List.getElem?_eq_some_iff.1 hj).1
  rw [if_neg (by omega)]
  obtain ⟨ad, ha, hcell⟩ := h.2 (1 + j) s (by rw [Nat.add_comm]; exact hj)
  subst ha
  exact ⟨_, rfl, by rw [add_one_add]; exact hcell⟩
theorem WordsIn.fr {base g : Nat} {w w' : World} {A : Option Addr} {ws : List ByteArray} (h : WordsIn w g A ws) (hf : Fr base g w w') (hb : w.heap.size ≤ base) : WordsIn w' g A ws := ⟨h.1, fun j t hj => by
  obtain ⟨ad, ha, hc⟩ := h.2 j t hj
  exact ⟨ad, ha, hf.cell hc hb (by rw [add_block]; exact h.1 ad ha)⟩⟩
end Go.Proofs.YtiapfhlipoomaaaDoor.Given
end
