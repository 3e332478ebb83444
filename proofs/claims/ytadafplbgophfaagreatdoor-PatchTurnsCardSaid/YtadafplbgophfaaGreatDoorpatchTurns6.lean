/- Part 6 of what the row of the law PatchTurns rests on: walks of functions, and plain lemmas (in part printed by the kit's print, what is not reached left out). -/
import Derived.Test.YtadafplbgophfaaGreatDoorpatchTurns5
import Derived.Shelf.Strings.Builder1
import Derived.Shelf.Strings.Builder2
import Derived.Shelf.Strings.OnBuilder
import Derived.Shelf.Small.Strs
import Derived.Shelf.Strings.BuilderF
import Derived.Shelf.Strings.BuilderK
import Derived.Shelf.Utf8.RuneCount
import Derived.Shelf.Strings.Builder2Cap
import Derived.Shelf.Strconv.Atoi
import Derived.Shelf.Strconv.Itoa0
import Derived.Shelf.Strconv.Itoa1
import Derived.Shelf.LaysM
import Derived.Shelf.Strconv.Itoa2
import Derived.Shelf.Strconv.Itoa3
import Derived.Shelf.Strings.Search1
import Derived.Shelf.Strings.Search2
import Derived.Shelf.Strings.Search3
import Derived.Shelf.Strings.Cut
import Derived.Shelf.Strings.Count
import Derived.Shelf.Strings.Shaped
import Derived.Shelf.Strings.Prefix
import Derived.Shelf.Strings.Split
import Derived.Shelf.Strings.SplitShaped
import Derived.Shelf.Unicode.Decode
import Derived.Shelf.Strings.RuneCount
import Derived.Shelf.Strings.Explode
import Derived.Shelf.Unicode.DecodeSlow
import Derived.Shelf.Unicode.DecodeAny
import Derived.Shelf.Strings.BuilderCap
import Derived.Shelf.Slices.Equal
import Derived.Shelf.Slices.Empties2
import Derived.Test.YtadafplbgophfaaGreatDoorProg
import Derived.Lib.IndexLaws
import Derived.Deep.Cut
set_option linter.unusedVariables false
set_option linter.unusedSimpArgs false
section
namespace Go.Proofs
open Go.Shelf
def Tryz.lays169_ren : Go.Shelf.Ren := ⟨fun | 169 => 41 | n => n, fun | 70 => 84 | 9 => 9 | 0 => 0 | 72 => 87 | 37 => 85 | 127 => 108 | 3 => 3 | 5 => 5 | n => n, fun | n => n⟩
theorem Tryz.lays169 : Go.Proofs.Lays.n169 Tryz.prog Tryz.lays169_ren := {
 mixed := by kernel_rfl
 f169 := Tryz.func41.trans (congrArg some (by kernel_rfl))
 t0 := Tryz.underlying0
 a0 := Tryz.isAgg0
 z0 := Tryz.sizeOf0
 v0 := Tryz.zeroValue0
 t3 := Tryz.underlying3
 a3 := Tryz.isAgg3
 z3 := Tryz.sizeOf3
 v3 := Tryz.zeroValue3
 t9 := Tryz.underlying9
 a9 := Tryz.isAgg9
 z9 := Tryz.sizeOf9
 v9 := Tryz.zeroValue9
 t37 := Tryz.underlying85
 a37 := Tryz.isAgg85
 z37 := Tryz.sizeOf85
 v37 := Tryz.zeroValue85
 t70 := Tryz.underlying84
 a70 := Tryz.isAgg84
 z70 := Tryz.sizeOf84
 v70 := Tryz.zeroValue84
 t72 := Tryz.underlying87
 a72 := Tryz.isAgg87
 z72 := Tryz.sizeOf87
 v72 := Tryz.zeroValue87
 t127 := Tryz.underlying108
 a127 := Tryz.isAgg108
 z127 := Tryz.sizeOf108
 v127 := Tryz.zeroValue108 }
theorem Tryz.Builder_Extra_169 : Builder.Extra Tryz.prog Tryz.lays169_ren := {
 sizeBuilder := by kernel_rfl
 liesBuilder := by kernel_rfl
 t5 := Tryz.underlying5
 a5 := Tryz.isAgg5
 z5 := Tryz.sizeOf5
 v5 := Tryz.zeroValue5
 infoByte := by kernel_rfl
 cellsByte := by kernel_rfl
 sizeByte := by kernel_rfl
 neB5 := by decide }
def Tryz.lays156_ren : Go.Shelf.Ren := ⟨fun | 156 => 37 | 165 => 52 | 166 => 38 | 169 => 41 | 240 => 53 | 241 => 65 | 276 => 66 | 277 => 75 | n => n, fun | 31 => 46 | 9 => 9 | 3 => 3 | 4 => 4 | 0 => 0 | 20 => 20 | 72 => 87 | 76 => 90 | 70 => 84 | 37 => 85 | 75 => 89 | 127 => 108 | 164 => 114 | 5 => 5 | 80 => 94 | n => n, fun | n => n⟩
theorem Tryz.lays156 : Go.Proofs.Lays.n156 Tryz.prog Tryz.lays156_ren := {
 mixed := by kernel_rfl
 f156 := Tryz.func37.trans (congrArg some (by kernel_rfl))
 f165 := Tryz.func52.trans (congrArg some (by kernel_rfl))
 f166 := Tryz.func38.trans (congrArg some (by kernel_rfl))
 f169 := Tryz.func41.trans (congrArg some (by kernel_rfl))
 f240 := Tryz.func53.trans (congrArg some (by kernel_rfl))
 f241 := Tryz.func65.trans (congrArg some (by kernel_rfl))
 f276 := Tryz.func66.trans (congrArg some (by kernel_rfl))
 f277 := Tryz.func75.trans (congrArg some (by kernel_rfl))
 t0 := Tryz.underlying0
 a0 := Tryz.isAgg0
 z0 := Tryz.sizeOf0
 v0 := Tryz.zeroValue0
 t3 := Tryz.underlying3
 a3 := Tryz.isAgg3
 z3 := Tryz.sizeOf3
 v3 := Tryz.zeroValue3
 t4 := Tryz.underlying4
 a4 := Tryz.isAgg4
 z4 := Tryz.sizeOf4
 v4 := Tryz.zeroValue4
 t9 := Tryz.underlying9
 a9 := Tryz.isAgg9
 z9 := Tryz.sizeOf9
 v9 := Tryz.zeroValue9
 t20 := Tryz.underlying20
 a20 := Tryz.isAgg20
 z20 := Tryz.sizeOf20
 v20 := Tryz.zeroValue20
 t31 := Tryz.underlying46
 a31 := Tryz.isAgg46
 z31 := Tryz.sizeOf46
 v31 := Tryz.zeroValue46
 t37 := Tryz.underlying85
 a37 := Tryz.isAgg85
 z37 := Tryz.sizeOf85
 v37 := Tryz.zeroValue85
 t70 := Tryz.underlying84
 a70 := Tryz.isAgg84
 z70 := Tryz.sizeOf84
 v70 := Tryz.zeroValue84
 t72 := Tryz.underlying87
 a72 := Tryz.isAgg87
 z72 := Tryz.sizeOf87
 v72 := Tryz.zeroValue87
 t75 := Tryz.underlying89
 a75 := Tryz.isAgg89
 z75 := Tryz.sizeOf89
 v75 := Tryz.zeroValue89
 t76 := Tryz.underlying90
 a76 := Tryz.isAgg90
 z76 := Tryz.sizeOf90
 v76 := Tryz.zeroValue90
 t127 := Tryz.underlying108
 a127 := Tryz.isAgg108
 z127 := Tryz.sizeOf108
 v127 := Tryz.zeroValue108
 t164 := Tryz.underlying114
 a164 := Tryz.isAgg114
 z164 := Tryz.sizeOf114
 v164 := Tryz.zeroValue114 }
theorem Tryz.Builder_Extra_156 : Builder.Extra Tryz.prog Tryz.lays156_ren := {
 sizeBuilder := by kernel_rfl
 liesBuilder := by kernel_rfl
 t5 := Tryz.underlying5
 a5 := Tryz.isAgg5
 z5 := Tryz.sizeOf5
 v5 := Tryz.zeroValue5
 infoByte := by kernel_rfl
 cellsByte := by kernel_rfl
 sizeByte := by kernel_rfl
 neB5 := by decide }
open Go.RowKit in
theorem Tryz.strings_Join_none (a : Option Addr) (c : Nat) (sep : ByteArray) (w : World) :
  Calls Tryz.prog 37 #[.slice a 0 c, .string sep] w fun e w' => e = .returned (.string ⟨#[]⟩) ∧ w' = w := Any.strings_Join_none Tryz.lays156 Tryz.Builder_Extra_156 a c sep w
open Go.RowKit in
theorem Tryz.strings_Join (bk o c : Nat) (xs : List ByteArray) (sep : ByteArray) (w : World) (hcells : ∀ (j : Nat) x, xs[j]? = some x → w.cell? ⟨bk, o + j, none⟩ = some (.string x)) (hbk : bk < w.heap.size) (hN : xs.length ≤ 140737488355328) (hcap : xs.length ≤ c) (hlen : (Lib.join (xs.map (·.data.toList)) sep.data.toList).length ≤ 140737488355328) :
  Calls Tryz.prog 37 #[.slice (some ⟨bk, o, none⟩) xs.length c, .string sep] w fun e w' => e = .returned (.string ⟨(Lib.join (xs.map (·.data.toList)) sep.data.toList).toArray⟩) ∧ Below w.heap.size w w' := Any.strings_Join Tryz.lays156 Tryz.Builder_Extra_156 bk o c xs sep w hcells hbk hN hcap hlen
def Tryz.lays137_ren : Go.Shelf.Ren := ⟨fun | 137 => 50 | 217 => 61 | 266 => 73 | n => n, fun | 9 => 9 | 5 => 5 | 3 => 3 | n => n, fun | n => n⟩
theorem Tryz.lays137 : Go.Proofs.Lays.n137 Tryz.prog Tryz.lays137_ren := {
 mixed := by kernel_rfl
 f137 := Tryz.func50.trans (congrArg some (by kernel_rfl))
 f217 := Tryz.func61.trans (congrArg some (by kernel_rfl))
 f266 := Tryz.func73.trans (congrArg some (by kernel_rfl))
 t3 := Tryz.underlying3
 a3 := Tryz.isAgg3
 z3 := Tryz.sizeOf3
 v3 := Tryz.zeroValue3
 t5 := Tryz.underlying5
 a5 := Tryz.isAgg5
 z5 := Tryz.sizeOf5
 v5 := Tryz.zeroValue5
 t9 := Tryz.underlying9
 a9 := Tryz.isAgg9
 z9 := Tryz.sizeOf9
 v9 := Tryz.zeroValue9 }
open Go.RowKit in
theorem Tryz.strings_IndexByte (s : ByteArray) (c : Int) (w : World) :
  Calls Tryz.prog 50 #[.string s, .int .u8 c] w fun e w' => e = .returned (.int .i64 (Lib.indexByte s.data.toList c.toNat.toUInt8)) ∧ w' = w := Any.strings_IndexByte Tryz.lays137 s c w
open Go.RowKit in
theorem Tryz.Builder_String_any_k (B b : Nat) (l : List UInt8) (w : World) (h : Lib.IsBuilderF 87 5 B b (Lib.byteCells l) w) (hBw : B ≤ w.heap.size) :
  Calls Tryz.prog 41 #[.pointer (some ⟨b, 0, none⟩)] w fun e w' => e = .returned (.string ⟨l.toArray⟩) ∧ (Lib.IsBuilderF 87 5 B b (Lib.byteCells l) w' ∧ Below B w w' ∧ Lib.OthersKept 5 (some b) w w') := Any.Builder_String_any_k Tryz.lays169 Tryz.Builder_Extra_169 B b l w h hBw
def Tryz.lays172_ren : Go.Shelf.Ren := ⟨fun | 172 => 80 | 244 => 89 | 245 => 90 | 247 => 99 | 279 => 100 | 280 => 101 | 281 => 102 | 282 => 103 | 287 => 107 | 316 => 108 | 171 => 54 | 205 => 109 | 321 => 110 | 322 => 111 | 243 => 67 | 246 => 76 | 283 => 81 | 284 => 82 | 285 => 83 | 286 => 84 | 129 => 92 | 317 => 91 | 318 => 93 | 319 => 94 | 320 => 95 | 337 => 104 | 338 => 105 | n => n, fun | 9 => 9 | 3 => 3 | 75 => 89 | 76 => 90 | 4 => 4 | 5 => 5 | 167 => 142 | 37 => 85 | 0 => 0 | 85 => 143 | 2 => 2 | 168 => 145 | 53 => 23 | 175 => 149 | 46 => 113 | 210 => 152 | 127 => 108 | 145 => 163 | 143 => 161 | 21 => 21 | 171 => 127 | 173 => 130 | 212 => 135 | 51 => 119 | 20 => 20 | 213 => 136 | 232 => 154 | 233 => 155 | 80 => 94 | n => n, fun | 15 => 2 | 16 => 3 | 17 => 1 | 18 => 4 | 19 => 5 | n => n⟩
theorem Tryz.lays172 : Go.Proofs.Lays.n172 Tryz.prog Tryz.lays172_ren := {
 mixed := by kernel_rfl
 f129 := Tryz.func92.trans (congrArg some (by kernel_rfl))
 f171 := Tryz.func54.trans (congrArg some (by kernel_rfl))
 f172 := Tryz.func80.trans (congrArg some (by kernel_rfl))
 f205 := Tryz.func109.trans (congrArg some (by kernel_rfl))
 f243 := Tryz.func67.trans (congrArg some (by kernel_rfl))
 f244 := Tryz.func89.trans (congrArg some (by kernel_rfl))
 f245 := Tryz.func90.trans (congrArg some (by kernel_rfl))
 f246 := Tryz.func76.trans (congrArg some (by kernel_rfl))
 f247 := Tryz.func99.trans (congrArg some (by kernel_rfl))
 f279 := Tryz.func100.trans (congrArg some (by kernel_rfl))
 f280 := Tryz.func101.trans (congrArg some (by kernel_rfl))
 f281 := Tryz.func102.trans (congrArg some (by kernel_rfl))
 f282 := Tryz.func103.trans (congrArg some (by kernel_rfl))
 f283 := Tryz.func81.trans (congrArg some (by kernel_rfl))
 f284 := Tryz.func82.trans (congrArg some (by kernel_rfl))
 f285 := Tryz.func83.trans (congrArg some (by kernel_rfl))
 f286 := Tryz.func84.trans (congrArg some (by kernel_rfl))
 f287 := Tryz.func107.trans (congrArg some (by kernel_rfl))
 f316 := Tryz.func108.trans (congrArg some (by kernel_rfl))
 f317 := Tryz.func91.trans (congrArg some (by kernel_rfl))
 f318 := Tryz.func93.trans (congrArg some (by kernel_rfl))
 f319 := Tryz.func94.trans (congrArg some (by kernel_rfl))
 f320 := Tryz.func95.trans (congrArg some (by kernel_rfl))
 f321 := Tryz.func110.trans (congrArg some (by kernel_rfl))
 f322 := Tryz.func111.trans (congrArg some (by kernel_rfl))
 f337 := Tryz.func104.trans (congrArg some (by kernel_rfl))
 f338 := Tryz.func105.trans (congrArg some (by kernel_rfl))
 t0 := Tryz.underlying0
 a0 := Tryz.isAgg0
 z0 := Tryz.sizeOf0
 v0 := Tryz.zeroValue0
 t2 := Tryz.underlying2
 a2 := Tryz.isAgg2
 z2 := Tryz.sizeOf2
 v2 := Tryz.zeroValue2
 t3 := Tryz.underlying3
 a3 := Tryz.isAgg3
 z3 := Tryz.sizeOf3
 v3 := Tryz.zeroValue3
 t4 := Tryz.underlying4
 a4 := Tryz.isAgg4
 z4 := Tryz.sizeOf4
 v4 := Tryz.zeroValue4
 t5 := Tryz.underlying5
 a5 := Tryz.isAgg5
 z5 := Tryz.sizeOf5
 v5 := Tryz.zeroValue5
 t9 := Tryz.underlying9
 a9 := Tryz.isAgg9
 z9 := Tryz.sizeOf9
 v9 := Tryz.zeroValue9
 t20 := Tryz.underlying20
 a20 := Tryz.isAgg20
 z20 := Tryz.sizeOf20
 v20 := Tryz.zeroValue20
 t21 := Tryz.underlying21
 a21 := Tryz.isAgg21
 z21 := Tryz.sizeOf21
 v21 := Tryz.zeroValue21
 t37 := Tryz.underlying85
 a37 := Tryz.isAgg85
 z37 := Tryz.sizeOf85
 v37 := Tryz.zeroValue85
 t46 := Tryz.underlying113
 a46 := Tryz.isAgg113
 z46 := Tryz.sizeOf113
 v46 := Tryz.zeroValue113
 t51 := Tryz.underlying119
 a51 := Tryz.isAgg119
 z51 := Tryz.sizeOf119
 v51 := Tryz.zeroValue119
 t53 := Tryz.underlying23
 a53 := Tryz.isAgg23
 z53 := Tryz.sizeOf23
 v53 := Tryz.zeroValue23
 t75 := Tryz.underlying89
 a75 := Tryz.isAgg89
 z75 := Tryz.sizeOf89
 v75 := Tryz.zeroValue89
 t76 := Tryz.underlying90
 a76 := Tryz.isAgg90
 z76 := Tryz.sizeOf90
 v76 := Tryz.zeroValue90
 t85 := Tryz.underlying143
 a85 := Tryz.isAgg143
 z85 := Tryz.sizeOf143
 v85 := Tryz.zeroValue143
 t127 := Tryz.underlying108
 a127 := Tryz.isAgg108
 z127 := Tryz.sizeOf108
 v127 := Tryz.zeroValue108
 t143 := Tryz.underlying161
 a143 := Tryz.isAgg161
 z143 := Tryz.sizeOf161
 v143 := Tryz.zeroValue161
 t145 := Tryz.underlying163
 a145 := Tryz.isAgg163
 z145 := Tryz.sizeOf163
 v145 := Tryz.zeroValue163
 t167 := Tryz.underlying142
 a167 := Tryz.isAgg142
 z167 := Tryz.sizeOf142
 v167 := Tryz.zeroValue142
 t168 := Tryz.underlying145
 a168 := Tryz.isAgg145
 z168 := Tryz.sizeOf145
 v168 := Tryz.zeroValue145
 t171 := Tryz.underlying127
 a171 := Tryz.isAgg127
 z171 := Tryz.sizeOf127
 v171 := Tryz.zeroValue127
 t173 := Tryz.underlying130
 a173 := Tryz.isAgg130
 z173 := Tryz.sizeOf130
 v173 := Tryz.zeroValue130
 t175 := Tryz.underlying149
 a175 := Tryz.isAgg149
 z175 := Tryz.sizeOf149
 v175 := Tryz.zeroValue149
 t210 := Tryz.underlying152
 a210 := Tryz.isAgg152
 z210 := Tryz.sizeOf152
 v210 := Tryz.zeroValue152
 t212 := Tryz.underlying135
 a212 := Tryz.isAgg135
 z212 := Tryz.sizeOf135
 v212 := Tryz.zeroValue135
 t213 := Tryz.underlying136
 a213 := Tryz.isAgg136
 z213 := Tryz.sizeOf136
 t232 := Tryz.underlying154
 a232 := Tryz.isAgg154
 z232 := Tryz.sizeOf154
 v232 := Tryz.zeroValue154
 t233 := Tryz.underlying155
 a233 := Tryz.isAgg155
 z233 := Tryz.sizeOf155
 v233 := Tryz.zeroValue155
 g15 := by kernel_rfl
 g16 := by kernel_rfl
 g17 := by kernel_rfl
 g18 := by kernel_rfl
 g19 := by kernel_rfl }
open Go.RowKit in
theorem Tryz.strconv_Atoi (s : ByteArray) (n : Int) (hl : s.size ≤ 18) (h : Lib.atoi s.data.toList = some n) (w : World) :
  Calls Tryz.prog 80 #[.string s] w fun e w' => e = .returned (.tuple #[.int .i64 n, .nilIface]) ∧ ∃ t, w' = Lib.bytesWorld w 5 t := Any.strconv_Atoi Tryz.lays172 s n hl h w
def Tryz.laysM171_ren : Go.Shelf.Ren := ⟨fun | 171 => 54 | 243 => 67 | 246 => 76 | 283 => 81 | 284 => 82 | 285 => 83 | 286 => 84 | 129 => 92 | 317 => 91 | 318 => 93 | 319 => 94 | 320 => 95 | 337 => 104 | 338 => 105 | n => n, fun | 3 => 3 | 9 => 9 | 2 => 2 | 4 => 4 | 171 => 127 | 0 => 0 | 53 => 23 | 37 => 85 | 5 => 5 | 173 => 130 | 212 => 135 | 51 => 119 | 20 => 20 | 213 => 136 | 46 => 113 | 232 => 154 | 233 => 155 | n => n, fun | 17 => 1 | 18 => 4 | 19 => 5 | n => n⟩
theorem Tryz.laysM171 : Go.Proofs.LaysM.n171 Tryz.prog Tryz.laysM171_ren := {
 mixed := by kernel_rfl
 f129 := Tryz.func92.trans (congrArg some (by kernel_rfl))
 f171 := Tryz.func54.trans (congrArg some (by kernel_rfl))
 f243 := Tryz.func67.trans (congrArg some (by kernel_rfl))
 f246 := Tryz.func76.trans (congrArg some (by kernel_rfl))
 f283 := Tryz.func81.trans (congrArg some (by kernel_rfl))
 f284 := Tryz.func82.trans (congrArg some (by kernel_rfl))
 f285 := Tryz.func83.trans (congrArg some (by kernel_rfl))
 f286 := Tryz.func84.trans (congrArg some (by kernel_rfl))
 f317 := Tryz.func91.trans (congrArg some (by kernel_rfl))
 f318 := Tryz.func93.trans (congrArg some (by kernel_rfl))
 f319 := Tryz.func94.trans (congrArg some (by kernel_rfl))
 f320 := Tryz.func95.trans (congrArg some (by kernel_rfl))
 f337 := Tryz.func104.trans (congrArg some (by kernel_rfl))
 f338 := Tryz.func105.trans (congrArg some (by kernel_rfl))
 t0 := Tryz.underlying0
 a0 := Tryz.isAgg0
 z0 := Tryz.sizeOf0
 v0 := Tryz.zeroValue0
 t2 := Tryz.underlying2
 a2 := Tryz.isAgg2
 z2 := Tryz.sizeOf2
 v2 := Tryz.zeroValue2
 t3 := Tryz.underlying3
 a3 := Tryz.isAgg3
 z3 := Tryz.sizeOf3
 v3 := Tryz.zeroValue3
 t4 := Tryz.underlying4
 a4 := Tryz.isAgg4
 z4 := Tryz.sizeOf4
 v4 := Tryz.zeroValue4
 t5 := Tryz.underlying5
 a5 := Tryz.isAgg5
 z5 := Tryz.sizeOf5
 v5 := Tryz.zeroValue5
 t9 := Tryz.underlying9
 a9 := Tryz.isAgg9
 z9 := Tryz.sizeOf9
 v9 := Tryz.zeroValue9
 t20 := Tryz.underlying20
 a20 := Tryz.isAgg20
 z20 := Tryz.sizeOf20
 v20 := Tryz.zeroValue20
 t37 := Tryz.underlying85
 a37 := Tryz.isAgg85
 z37 := Tryz.sizeOf85
 v37 := Tryz.zeroValue85
 t46 := Tryz.underlying113
 a46 := Tryz.isAgg113
 z46 := Tryz.sizeOf113
 v46 := Tryz.zeroValue113
 t51 := Tryz.underlying119
 a51 := Tryz.isAgg119
 z51 := Tryz.sizeOf119
 v51 := Tryz.zeroValue119
 t53 := Tryz.underlying23
 a53 := Tryz.isAgg23
 z53 := Tryz.sizeOf23
 v53 := Tryz.zeroValue23
 t171 := Tryz.underlying127
 a171 := Tryz.isAgg127
 z171 := Tryz.sizeOf127
 v171 := Tryz.zeroValue127
 t173 := Tryz.underlying130
 a173 := Tryz.isAgg130
 z173 := Tryz.sizeOf130
 v173 := Tryz.zeroValue130
 t212 := Tryz.underlying135
 a212 := Tryz.isAgg135
 z212 := Tryz.sizeOf135
 v212 := Tryz.zeroValue135
 t213 := Tryz.underlying136
 a213 := Tryz.isAgg136
 z213 := Tryz.sizeOf136
 t232 := Tryz.underlying154
 a232 := Tryz.isAgg154
 z232 := Tryz.sizeOf154
 v232 := Tryz.zeroValue154
 t233 := Tryz.underlying155
 a233 := Tryz.isAgg155
 z233 := Tryz.sizeOf155
 v233 := Tryz.zeroValue155
 g17 := by kernel_rfl
 g18 := by kernel_rfl
 g19 := by kernel_rfl
 i0 := by kernel_rfl
 i2 := by kernel_rfl
 i3 := by kernel_rfl
 i4 := by kernel_rfl
 i5 := by kernel_rfl
 i9 := by kernel_rfl
 i20 := by kernel_rfl
 i37 := by kernel_rfl
 i46 := by kernel_rfl
 i51 := by kernel_rfl
 i53 := by kernel_rfl
 i171 := by kernel_rfl
 i173 := by kernel_rfl
 i212 := by kernel_rfl
 i232 := by kernel_rfl
 i233 := by kernel_rfl
 m17 := by kernel_rfl
 m18 := by kernel_rfl
 m19 := by kernel_rfl }
open Go.RowKit Go.Sort Go.Lib in
theorem Tryz.strconv_Itoa (n : Int) (h0 : -9223372036854775808 ≤ n) (h1 : n ≤ 9223372036854775807) (w : World) (htab : Lib.TabIs Tryz.prog w "internal/strconv.uint64pow10" .u64 Lib.pow10Tab) :
  Calls Tryz.prog 54 #[.int .i64 n] w fun e w' => e = .returned (.string ⟨(Lib.itoa n).toArray⟩) ∧ ∃ k os, w' = grow (w.drewN k) os := Any.strconv_Itoa Tryz.laysM171 n h0 h1 w htab
def Tryz.lays171_ren : Go.Shelf.Ren := ⟨fun | 171 => 54 | 243 => 67 | 246 => 76 | 283 => 81 | 284 => 82 | 285 => 83 | 286 => 84 | 129 => 92 | 317 => 91 | 318 => 93 | 319 => 94 | 320 => 95 | 337 => 104 | 338 => 105 | n => n, fun | 3 => 3 | 9 => 9 | 2 => 2 | 4 => 4 | 171 => 127 | 0 => 0 | 53 => 23 | 37 => 85 | 5 => 5 | 173 => 130 | 212 => 135 | 51 => 119 | 20 => 20 | 213 => 136 | 46 => 113 | 232 => 154 | 233 => 155 | n => n, fun | 17 => 1 | 18 => 4 | 19 => 5 | n => n⟩
theorem Tryz.lays171 : Go.Proofs.Lays.n171 Tryz.prog Tryz.lays171_ren := {
 mixed := by kernel_rfl
 f129 := Tryz.func92.trans (congrArg some (by kernel_rfl))
 f171 := Tryz.func54.trans (congrArg some (by kernel_rfl))
 f243 := Tryz.func67.trans (congrArg some (by kernel_rfl))
 f246 := Tryz.func76.trans (congrArg some (by kernel_rfl))
 f283 := Tryz.func81.trans (congrArg some (by kernel_rfl))
 f284 := Tryz.func82.trans (congrArg some (by kernel_rfl))
 f285 := Tryz.func83.trans (congrArg some (by kernel_rfl))
 f286 := Tryz.func84.trans (congrArg some (by kernel_rfl))
 f317 := Tryz.func91.trans (congrArg some (by kernel_rfl))
 f318 := Tryz.func93.trans (congrArg some (by kernel_rfl))
 f319 := Tryz.func94.trans (congrArg some (by kernel_rfl))
 f320 := Tryz.func95.trans (congrArg some (by kernel_rfl))
 f337 := Tryz.func104.trans (congrArg some (by kernel_rfl))
 f338 := Tryz.func105.trans (congrArg some (by kernel_rfl))
 t0 := Tryz.underlying0
 a0 := Tryz.isAgg0
 z0 := Tryz.sizeOf0
 v0 := Tryz.zeroValue0
 t2 := Tryz.underlying2
 a2 := Tryz.isAgg2
 z2 := Tryz.sizeOf2
 v2 := Tryz.zeroValue2
 t3 := Tryz.underlying3
 a3 := Tryz.isAgg3
 z3 := Tryz.sizeOf3
 v3 := Tryz.zeroValue3
 t4 := Tryz.underlying4
 a4 := Tryz.isAgg4
 z4 := Tryz.sizeOf4
 v4 := Tryz.zeroValue4
 t5 := Tryz.underlying5
 a5 := Tryz.isAgg5
 z5 := Tryz.sizeOf5
 v5 := Tryz.zeroValue5
 t9 := Tryz.underlying9
 a9 := Tryz.isAgg9
 z9 := Tryz.sizeOf9
 v9 := Tryz.zeroValue9
 t20 := Tryz.underlying20
 a20 := Tryz.isAgg20
 z20 := Tryz.sizeOf20
 v20 := Tryz.zeroValue20
 t37 := Tryz.underlying85
 a37 := Tryz.isAgg85
 z37 := Tryz.sizeOf85
 v37 := Tryz.zeroValue85
 t46 := Tryz.underlying113
 a46 := Tryz.isAgg113
 z46 := Tryz.sizeOf113
 v46 := Tryz.zeroValue113
 t51 := Tryz.underlying119
 a51 := Tryz.isAgg119
 z51 := Tryz.sizeOf119
 v51 := Tryz.zeroValue119
 t53 := Tryz.underlying23
 a53 := Tryz.isAgg23
 z53 := Tryz.sizeOf23
 v53 := Tryz.zeroValue23
 t171 := Tryz.underlying127
 a171 := Tryz.isAgg127
 z171 := Tryz.sizeOf127
 v171 := Tryz.zeroValue127
 t173 := Tryz.underlying130
 a173 := Tryz.isAgg130
 z173 := Tryz.sizeOf130
 v173 := Tryz.zeroValue130
 t212 := Tryz.underlying135
 a212 := Tryz.isAgg135
 z212 := Tryz.sizeOf135
 v212 := Tryz.zeroValue135
 t213 := Tryz.underlying136
 a213 := Tryz.isAgg136
 z213 := Tryz.sizeOf136
 t232 := Tryz.underlying154
 a232 := Tryz.isAgg154
 z232 := Tryz.sizeOf154
 v232 := Tryz.zeroValue154
 t233 := Tryz.underlying155
 a233 := Tryz.isAgg155
 z233 := Tryz.sizeOf155
 v233 := Tryz.zeroValue155
 g17 := by kernel_rfl
 g18 := by kernel_rfl
 g19 := by kernel_rfl }
open Go.RowKit Go.Sort Go.Lib in
theorem Tryz.strconv_Itoa_small (i : Nat) (hi : i < 100) (w : World) :
  Calls Tryz.prog 54 #[.int .i64 i] w fun e w' => e = .returned (.string ⟨(Lib.decDigits i).toArray⟩) ∧ w' = w := Any.strconv_Itoa_small Tryz.lays171 i hi w
def Tryz.lays143_ren : Go.Shelf.Ren := ⟨fun | 143 => 36 | 219 => 51 | 217 => 61 | 225 => 62 | 224 => 63 | 267 => 64 | 266 => 73 | 314 => 74 | n => n, fun | 9 => 9 | 3 => 3 | 4 => 4 | 5 => 5 | 46 => 113 | 146 => 120 | 51 => 119 | n => n, fun | 1 => 0 | n => n⟩
theorem Tryz.lays143 : Go.Proofs.Lays.n143 Tryz.prog Tryz.lays143_ren := {
 mixed := by kernel_rfl
 f143 := Tryz.func36.trans (congrArg some (by kernel_rfl))
 f217 := Tryz.func61.trans (congrArg some (by kernel_rfl))
 f219 := Tryz.func51.trans (congrArg some (by kernel_rfl))
 f224 := Tryz.func63.trans (congrArg some (by kernel_rfl))
 f225 := Tryz.func62.trans (congrArg some (by kernel_rfl))
 f266 := Tryz.func73.trans (congrArg some (by kernel_rfl))
 f267 := Tryz.func64.trans (congrArg some (by kernel_rfl))
 f314 := Tryz.func74.trans (congrArg some (by kernel_rfl))
 t3 := Tryz.underlying3
 a3 := Tryz.isAgg3
 z3 := Tryz.sizeOf3
 v3 := Tryz.zeroValue3
 t4 := Tryz.underlying4
 a4 := Tryz.isAgg4
 z4 := Tryz.sizeOf4
 v4 := Tryz.zeroValue4
 t5 := Tryz.underlying5
 a5 := Tryz.isAgg5
 z5 := Tryz.sizeOf5
 v5 := Tryz.zeroValue5
 t9 := Tryz.underlying9
 a9 := Tryz.isAgg9
 z9 := Tryz.sizeOf9
 v9 := Tryz.zeroValue9
 t46 := Tryz.underlying113
 a46 := Tryz.isAgg113
 z46 := Tryz.sizeOf113
 v46 := Tryz.zeroValue113
 t51 := Tryz.underlying119
 a51 := Tryz.isAgg119
 z51 := Tryz.sizeOf119
 v51 := Tryz.zeroValue119
 t146 := Tryz.underlying120
 a146 := Tryz.isAgg120
 z146 := Tryz.sizeOf120
 v146 := Tryz.zeroValue120
 g1 := by kernel_rfl }
open Go.RowKit Go.Lib in
theorem Tryz.strings_Index_one (s : ByteArray) (c : UInt8) (w : World) :
  Calls Tryz.prog 36 #[.string s, .string ⟨#[c]⟩] w fun e w' => e = .returned (.int .i64 (Lib.indexByte s.data.toList c)) ∧ w' = w := Any.strings_Index_one Tryz.lays143 s c w
open Go.RowKit Go.Lib in
theorem Tryz.strings_Index (s sub : ByteArray) (m : Int) (w : World) (hs : s.size < 4294967281) (hm : w.cell? ⟨0, 0, none⟩ = some (.int .i64 m)) :
  Calls Tryz.prog 36 #[.string s, .string sub] w fun e w' => e = .returned (.int .i64 (Lib.index s.data.toList sub.data.toList)) ∧ w' = w := Any.strings_Index Tryz.lays143 s sub m w hs hm
def Tryz.lays145_ren : Go.Shelf.Ren := ⟨fun | 145 => 78 | 220 => 87 | 219 => 51 | 217 => 61 | 225 => 62 | 224 => 63 | 267 => 64 | 266 => 73 | 314 => 74 | n => n, fun | 9 => 9 | 4 => 4 | 59 => 125 | 3 => 3 | 5 => 5 | 46 => 113 | 146 => 120 | 51 => 119 | n => n, fun | 1 => 0 | n => n⟩
theorem Tryz.lays145 : Go.Proofs.Lays.n145 Tryz.prog Tryz.lays145_ren := {
 mixed := by kernel_rfl
 f145 := Tryz.func78.trans (congrArg some (by kernel_rfl))
 f217 := Tryz.func61.trans (congrArg some (by kernel_rfl))
 f219 := Tryz.func51.trans (congrArg some (by kernel_rfl))
 f220 := Tryz.func87.trans (congrArg some (by kernel_rfl))
 f224 := Tryz.func63.trans (congrArg some (by kernel_rfl))
 f225 := Tryz.func62.trans (congrArg some (by kernel_rfl))
 f266 := Tryz.func73.trans (congrArg some (by kernel_rfl))
 f267 := Tryz.func64.trans (congrArg some (by kernel_rfl))
 f314 := Tryz.func74.trans (congrArg some (by kernel_rfl))
 t3 := Tryz.underlying3
 a3 := Tryz.isAgg3
 z3 := Tryz.sizeOf3
 v3 := Tryz.zeroValue3
 t4 := Tryz.underlying4
 a4 := Tryz.isAgg4
 z4 := Tryz.sizeOf4
 v4 := Tryz.zeroValue4
 t5 := Tryz.underlying5
 a5 := Tryz.isAgg5
 z5 := Tryz.sizeOf5
 v5 := Tryz.zeroValue5
 t9 := Tryz.underlying9
 a9 := Tryz.isAgg9
 z9 := Tryz.sizeOf9
 v9 := Tryz.zeroValue9
 t46 := Tryz.underlying113
 a46 := Tryz.isAgg113
 z46 := Tryz.sizeOf113
 v46 := Tryz.zeroValue113
 t51 := Tryz.underlying119
 a51 := Tryz.isAgg119
 z51 := Tryz.sizeOf119
 v51 := Tryz.zeroValue119
 t59 := Tryz.underlying125
 a59 := Tryz.isAgg125
 z59 := Tryz.sizeOf125
 v59 := Tryz.zeroValue125
 t146 := Tryz.underlying120
 a146 := Tryz.isAgg120
 z146 := Tryz.sizeOf120
 v146 := Tryz.zeroValue120
 g1 := by kernel_rfl }
open Go.RowKit Go.Lib in
theorem Tryz.strings_Cut (s sep : ByteArray) (m : Int) (w : World) (hs : s.size < 4294967281) (hm : w.cell? ⟨0, 0, none⟩ = some (.int .i64 m)) :
  Calls Tryz.prog 78 #[.string s, .string sep] w fun e w' => e = .returned (.tuple #[.string ⟨(Lib.cut s.data.toList sep.data.toList).1.toArray⟩, .string ⟨(Lib.cut s.data.toList sep.data.toList).2.1.toArray⟩, .bool (Lib.cut s.data.toList sep.data.toList).2.2]) ∧ ∃ n, w' = w.drewN n := Any.strings_Cut Tryz.lays145 s sep m w hs hm
def Tryz.lays99_ren : Go.Shelf.Ren := ⟨fun | 99 => 56 | 206 => 69 | n => n, fun | 9 => 9 | 4 => 4 | 3 => 3 | n => n, fun | n => n⟩
theorem Tryz.lays99 : Go.Proofs.Lays.n99 Tryz.prog Tryz.lays99_ren := {
 mixed := by kernel_rfl
 f99 := Tryz.func56.trans (congrArg some (by kernel_rfl))
 f206 := Tryz.func69.trans (congrArg some (by kernel_rfl))
 t3 := Tryz.underlying3
 a3 := Tryz.isAgg3
 z3 := Tryz.sizeOf3
 v3 := Tryz.zeroValue3
 t4 := Tryz.underlying4
 a4 := Tryz.isAgg4
 z4 := Tryz.sizeOf4
 v4 := Tryz.zeroValue4
 t9 := Tryz.underlying9
 a9 := Tryz.isAgg9
 z9 := Tryz.sizeOf9
 v9 := Tryz.zeroValue9 }
open Go.RowKit Go.Lib in
theorem Tryz.strings_HasPrefix (s p : ByteArray) (w : World) :
  Calls Tryz.prog 56 #[.string s, .string p] w fun e w' => e = .returned (.bool (Lib.hasPrefix s.data.toList p.data.toList)) ∧ w' = w := Any.strings_HasPrefix Tryz.lays99 s p w
def Tryz.lays207_ren : Go.Shelf.Ren := ⟨fun | 207 => 68 | n => n, fun | 9 => 9 | 4 => 4 | 3 => 3 | n => n, fun | n => n⟩
theorem Tryz.lays207 : Go.Proofs.Lays.n207 Tryz.prog Tryz.lays207_ren := {
 mixed := by kernel_rfl
 f207 := Tryz.func68.trans (congrArg some (by kernel_rfl))
 t3 := Tryz.underlying3
 a3 := Tryz.isAgg3
 z3 := Tryz.sizeOf3
 v3 := Tryz.zeroValue3
 t4 := Tryz.underlying4
 a4 := Tryz.isAgg4
 z4 := Tryz.sizeOf4
 v4 := Tryz.zeroValue4
 t9 := Tryz.underlying9
 a9 := Tryz.isAgg9
 z9 := Tryz.sizeOf9
 v9 := Tryz.zeroValue9 }
open Go.RowKit Go.Lib in
theorem Tryz.stringslite_HasSuffix (s p : ByteArray) (w : World) (hs : s.size ≤ 9223372036854775807) :
  Calls Tryz.prog 68 #[.string s, .string p] w fun e w' => e = .returned (.bool (Lib.hasSuffix s.data.toList p.data.toList)) ∧ w' = w := Any.stringslite_HasSuffix Tryz.lays207 s p w hs
def Tryz.lays100_ren : Go.Shelf.Ren := ⟨fun | 100 => 55 | 207 => 68 | n => n, fun | 9 => 9 | 4 => 4 | 3 => 3 | n => n, fun | n => n⟩
theorem Tryz.lays100 : Go.Proofs.Lays.n100 Tryz.prog Tryz.lays100_ren := {
 mixed := by kernel_rfl
 f100 := Tryz.func55.trans (congrArg some (by kernel_rfl))
 f207 := Tryz.func68.trans (congrArg some (by kernel_rfl))
 t3 := Tryz.underlying3
 a3 := Tryz.isAgg3
 z3 := Tryz.sizeOf3
 v3 := Tryz.zeroValue3
 t4 := Tryz.underlying4
 a4 := Tryz.isAgg4
 z4 := Tryz.sizeOf4
 v4 := Tryz.zeroValue4
 t9 := Tryz.underlying9
 a9 := Tryz.isAgg9
 z9 := Tryz.sizeOf9
 v9 := Tryz.zeroValue9 }
open Go.RowKit Go.Lib in
theorem Tryz.strings_HasSuffix (s p : ByteArray) (w : World) (hs : s.size ≤ 9223372036854775807) :
  Calls Tryz.prog 55 #[.string s, .string p] w fun e w' => e = .returned (.bool (Lib.hasSuffix s.data.toList p.data.toList)) ∧ w' = w := Any.strings_HasSuffix Tryz.lays100 s p w hs
def Tryz.lays101_ren : Go.Shelf.Ren := ⟨fun | 101 => 79 | 208 => 88 | 206 => 69 | n => n, fun | 9 => 9 | 4 => 4 | 3 => 3 | n => n, fun | n => n⟩
theorem Tryz.lays101 : Go.Proofs.Lays.n101 Tryz.prog Tryz.lays101_ren := {
 mixed := by kernel_rfl
 f101 := Tryz.func79.trans (congrArg some (by kernel_rfl))
 f206 := Tryz.func69.trans (congrArg some (by kernel_rfl))
 f208 := Tryz.func88.trans (congrArg some (by kernel_rfl))
 t3 := Tryz.underlying3
 a3 := Tryz.isAgg3
 z3 := Tryz.sizeOf3
 v3 := Tryz.zeroValue3
 t4 := Tryz.underlying4
 a4 := Tryz.isAgg4
 z4 := Tryz.sizeOf4
 v4 := Tryz.zeroValue4
 t9 := Tryz.underlying9
 a9 := Tryz.isAgg9
 z9 := Tryz.sizeOf9
 v9 := Tryz.zeroValue9 }
open Go.RowKit Go.Lib in
theorem Tryz.strings_TrimPrefix (s p : ByteArray) (w : World) :
  Calls Tryz.prog 79 #[.string s, .string p] w fun e w' => e = .returned (.string ⟨(Lib.trimPrefix s.data.toList p.data.toList).toArray⟩) ∧ w' = w := Any.strings_TrimPrefix Tryz.lays101 s p w
def Tryz.lays146_ren : Go.Shelf.Ren := ⟨fun | 146 => 70 | 221 => 77 | 268 => 85 | 138 => 86 | 143 => 36 | 195 => 96 | 197 => 97 | 218 => 98 | 219 => 51 | 260 => 106 | 217 => 61 | 225 => 62 | 224 => 63 | 267 => 64 | 266 => 73 | 314 => 74 | n => n, fun | 9 => 9 | 31 => 46 | 3 => 3 | 4 => 4 | 0 => 0 | 105 => 140 | 21 => 21 | 5 => 5 | 46 => 113 | 119 => 156 | 139 => 159 | 138 => 158 | 146 => 120 | 51 => 119 | n => n, fun | 1 => 0 | 3 => 6 | 4 => 7 | n => n⟩
theorem Tryz.lays146 : Go.Proofs.Lays.n146 Tryz.prog Tryz.lays146_ren := {
 mixed := by kernel_rfl
 f138 := Tryz.func86.trans (congrArg some (by kernel_rfl))
 f143 := Tryz.func36.trans (congrArg some (by kernel_rfl))
 f146 := Tryz.func70.trans (congrArg some (by kernel_rfl))
 f195 := Tryz.func96.trans (congrArg some (by kernel_rfl))
 f197 := Tryz.func97.trans (congrArg some (by kernel_rfl))
 f217 := Tryz.func61.trans (congrArg some (by kernel_rfl))
 f218 := Tryz.func98.trans (congrArg some (by kernel_rfl))
 f219 := Tryz.func51.trans (congrArg some (by kernel_rfl))
 f221 := Tryz.func77.trans (congrArg some (by kernel_rfl))
 f224 := Tryz.func63.trans (congrArg some (by kernel_rfl))
 f225 := Tryz.func62.trans (congrArg some (by kernel_rfl))
 f260 := Tryz.func106.trans (congrArg some (by kernel_rfl))
 f266 := Tryz.func73.trans (congrArg some (by kernel_rfl))
 f267 := Tryz.func64.trans (congrArg some (by kernel_rfl))
 f268 := Tryz.func85.trans (congrArg some (by kernel_rfl))
 f314 := Tryz.func74.trans (congrArg some (by kernel_rfl))
 t0 := Tryz.underlying0
 a0 := Tryz.isAgg0
 z0 := Tryz.sizeOf0
 v0 := Tryz.zeroValue0
 t3 := Tryz.underlying3
 a3 := Tryz.isAgg3
 z3 := Tryz.sizeOf3
 v3 := Tryz.zeroValue3
 t4 := Tryz.underlying4
 a4 := Tryz.isAgg4
 z4 := Tryz.sizeOf4
 v4 := Tryz.zeroValue4
 t5 := Tryz.underlying5
 a5 := Tryz.isAgg5
 z5 := Tryz.sizeOf5
 v5 := Tryz.zeroValue5
 t9 := Tryz.underlying9
 a9 := Tryz.isAgg9
 z9 := Tryz.sizeOf9
 v9 := Tryz.zeroValue9
 t21 := Tryz.underlying21
 a21 := Tryz.isAgg21
 z21 := Tryz.sizeOf21
 v21 := Tryz.zeroValue21
 t31 := Tryz.underlying46
 a31 := Tryz.isAgg46
 z31 := Tryz.sizeOf46
 v31 := Tryz.zeroValue46
 t46 := Tryz.underlying113
 a46 := Tryz.isAgg113
 z46 := Tryz.sizeOf113
 v46 := Tryz.zeroValue113
 t51 := Tryz.underlying119
 a51 := Tryz.isAgg119
 z51 := Tryz.sizeOf119
 v51 := Tryz.zeroValue119
 t105 := Tryz.underlying140
 a105 := Tryz.isAgg140
 z105 := Tryz.sizeOf140
 v105 := Tryz.zeroValue140
 t119 := Tryz.underlying156
 a119 := Tryz.isAgg156
 z119 := Tryz.sizeOf156
 t138 := Tryz.underlying158
 a138 := Tryz.isAgg158
 z138 := Tryz.sizeOf158
 v138 := Tryz.zeroValue158
 t139 := Tryz.underlying159
 a139 := Tryz.isAgg159
 z139 := Tryz.sizeOf159
 v139 := Tryz.zeroValue159
 t146 := Tryz.underlying120
 a146 := Tryz.isAgg120
 z146 := Tryz.sizeOf120
 v146 := Tryz.zeroValue120
 g1 := by kernel_rfl
 g3 := by kernel_rfl
 g4 := by kernel_rfl }
open Go.RowKit Go.Lib in
theorem Tryz.strings_Split (s sep : ByteArray) (m : Int) (w : World) (hs : s.size < 4294967281) (hm : w.cell? ⟨0, 0, none⟩ = some (.int .i64 m)) (h1 : 1 ≤ sep.size) :
  Calls Tryz.prog 70 #[.string s, .string sep] w fun e w' =>
   e = .returned (.slice (some ⟨w.heap.size, 0, none⟩) (Lib.countB s sep + 1) (Lib.countB s sep + 1)) ∧ w' = w.alloc (.cells ((Lib.splitB sep 0 (Lib.countB s sep) s).map Value.string).toArray 9) := Any.strings_Split Tryz.lays146 (by kernel_rfl) s sep m w hs hm h1
end Go.Proofs
end
section
namespace Go.Proofs.YtadafplbgophfaaGreatDoor.PA
open Go.RowKit Go.Shelf Go.Proofs.RF Go.Proofs.YtadafplbgophfaaGreatDoorW.PrintWords Go.Proofs.YtadafplbgophfaaGreatDoorW.PrintLast Go.Proofs.YtadafplbgophfaaGreatDoorW.PrintMore
attribute [local go_sem] Oper.semAt_some
def Vd (s : ByteArray) : Int := Lib.indexByte s.data.toList (10 : Int).toNat.toUInt8
def Kx (s : ByteArray) : ByteArray := if 0 ≤ Vd s then s.extract 0 (Vd s + 1).toNat else s
def Jv (s : ByteArray) : ByteArray := if 0 ≤ Vd s then s.extract (Vd s + 1).toNat s.size else ⟨#[]⟩
inductive Vg : ByteArray → List ByteArray → Prop where
 | nil {s : ByteArray} (h : ¬ 0 < s.size) : Vg s []
 | cons {s : ByteArray} {l : List ByteArray} (h : 0 < s.size) (hl : Vg (Jv s) l) : Vg s (Kx s :: l)
def Qeq (c : Nat) (W : World) : Nat := match W.cell? ⟨c, 0, none⟩ with
 | some (.string b) => b.size
 | _ => 0
theorem Qck : ∀ (l : List UInt8) (c : UInt8), Lib.indexByte l c < l.length
 | [], _ => by simp [Lib.indexByte]
 | b :: l, c => by
  have := Qck l c; unfold Lib.indexByte; simp only [List.length_cons]
  split
  ·omega
  ·split <;> omega
theorem Js (s : ByteArray) : Vd s < s.size := by
 have := Qck s.data.toList (10 : Int).toNat.toUInt8; unfold Vd
 rwa [Array.length_toList] at this
theorem Qav {c : Nat} {W : World} {b : ByteArray} (h : W.cell? ⟨c, 0, none⟩ = some (.string b)) : Qeq c W = b.size := by
 unfold Qeq; rw [h]
theorem Qfc {s : ByteArray} (h : 0 < s.size) : (Jv s).size < s.size := by
 unfold Jv
 split
 ·rename_i h0; rw [ByteArray.size_extract]; omega
 ·exact h
theorem Qil {s : ByteArray} {l : List ByteArray} (h : Vg s l) : l.length ≤ s.size := by
 induction h with
 | nil h => exact Nat.zero_le _
 | @cons s l h hl ih => have := Qfc h; simp only [List.length_cons]; omega
def Va.T4 : Bool × List (List Nat × List Nat) := (true, [([], []), ([], []), ([1], [1]), ([0, 2], [0, 2]), ([], []), ([], []), ([5], [5]), ([4, 6], [4, 6]), ([3, 0, 1, 2, 3], [3]), ([7, 8, 0, 1, 2, 3, 4, 5, 6, 7, 8], [7])])
def Va.B4 : List Nat := [0, 0, 2, 7, 0, 0, 32, 112, 15, 511]
theorem Va.tab4 : Yu .any (Jj Tryz.f49 4) = Va.T4 := by kernel_rfl
theorem Va.bits4 : Ys Va.T4.2 Va.B4 = true := by kernel_rfl
set_option maxRecDepth 100000 in
set_option maxHeartbeats 2000000 in
theorem Qct (n : Nat) (hn : 1 ≤ n) (l c : Nat) (s0 : ByteArray) (hs0 : s0.size ≤ 1000000) (xs : List ByteArray) (hxs : Vg s0 xs) (J : List ByteArray → World → Prop) (W : World) (hJ : Qfx c W.heap.size J)
  (hY : ∀ pre x W1, J pre W1 → pre.length < xs.length → YieldAt Fence.wide (n - 1) Tryz.prog l #[.string x] W1 fun e W' => e = .returned (.bool true) ∧ J (pre ++ [x]) W' ∧ Below (c + 1) W1 W')
  (hc : Boxed W c 9 (.string s0)) (h0 : J [] W) :
  CallsIn Fence.wide n Tryz.prog 49 #[.func (.yield l) #[] #[], .pointer (some ⟨c, 0, none⟩)] W fun e W' => (∃ v, e = .returned v) ∧ ∃ ys, ys = xs ∧ J ys W' := by
 refine callsIn_of_wp Tryz.func49 rfl trivial ?_ rfl; simp only [Tryz.ntmps49, List.size_toArray, List.length_cons, List.length_nil, Nat.reduceAdd, Nat.reduceSub, Array.replicate_succ, Array.replicate_zero, List.push_toArray, List.append_toArray, List.nil_append, List.cons_append]
 gi_wp2
 gi_loopw [3] (fun _ wr => ∃ (pre rest : List ByteArray) (b : ByteArray), Boxed wr c 9 (.string b) ∧ xs = pre ++ rest ∧ Vg b rest ∧ Qa (b.size ≤ 1000000) ∧ J pre wr ∧ W.heap.size ≤ wr.heap.size) (fun _ wr => Qeq c wr)
 case atStart => exact ⟨[], xs, s0, hc, rfl, hxs, ⟨hs0⟩, h0, Nat.le_refl _⟩
 case round =>
  obtain ⟨pre, rest, b, hc, hx, hl, hbs, hJs, hsz⟩ := hrel; have hc1 := hc.cell; have hf1 := hc.frozen; have CS := Qav hc1
  cases hl with
  | nil hb =>
   have lt1 : decide ((0 : Int) < (b.size : Int)) = false := decide_eq_false (by omega)
   gi_wp2
   go_end0; exact ⟨⟨_, rfl⟩, pre, by rw [hx, List.append_nil], hJs⟩
  | @cons _ rest hb hl =>
   have lt1 : decide ((0 : Int) < (b.size : Int)) = true := decide_eq_true (by omega); have hlt := Qfc hb; have hcut := Js b
   by_cases hi : 0 ≤ Vd b
   ·have e1 : Kx b = b.extract 0 (Vd b + 1).toNat := if_pos hi
    have e2 : Jv b = b.extract (Vd b + 1).toNat b.size := if_pos hi; obtain ⟨m, hm⟩ : ∃ m : Nat, Vd b = (m : Int) := ⟨(Vd b).toNat, by omega⟩
    have CALL : ∀ w, Calls Tryz.prog 50 #[.string b, .int .u8 10] w fun e w' => e = .returned (.int .i64 (m : Int)) ∧ w' = w := fun w => by rw [← hm]; exact Tryz.strings_IndexByte b 10 w
    have hcm : Vd b + 1 = ((m + 1 : Nat) : Int) := by omega
    have hmb : m + 1 ≤ b.size := by omega
    have hw : wrap64 ((m : Int) + 1) = (m : Int) + 1 := by have := hbs.out; unfold wrap64; omega
    rw [hm, ← hw] at e1 e2
    have p1 : ((0 : Int) ≤ wrap64 ((m : Int) + 1)) = True := eq_true (by omega); have p2 : (wrap64 ((m : Int) + 1) ≤ (b.size : Int)) = True := eq_true (by omega); have lt2 : decide ((0 : Int) ≤ (m : Int)) = true := decide_eq_true (by omega)
    rw [e1] at hx; rw [e2] at hl hlt; clear e1 e2
    clear hi hm hcut hcm hmb hw
    have JB : ∀ v, J pre (wr.setCell ⟨c, 0, none⟩ v).drew := fun v => hJ pre (wr.setCell ⟨c, 0, none⟩ v) _ none (hJ pre wr _ (some c) hJs (grownBy_setCell' wr c _) (fun r e => by cases e; exact .inl ⟨rfl, _, hc, rfl⟩)) ⟨rfl, rfl, rfl, Nat.le_refl _, fun _ _ _ => rfl⟩ (fun r e => by cases e)
    gi_wp2_with (refine ⟨trivial, ?_⟩; gi_at_call 50; refine (callsIn_wide.2 (CALL _)).mono ?_; rintro e w2 ⟨rfl, rfl⟩)
    refine wpIn_wide.2 ?_; refine Vo (n := 10) (S := fun w' => w'.cell? ⟨c, 0, none⟩ = some (.string b)) (ds := [9]) (bz_ 10 0) (by kernel_rfl) rfl rfl hc1 (fun hHeld => ?_); refine Yd Va.tab4 Va.bits4 (fun HT_ HW_ => ?_); refine Qx (i := 1) (N := some 13) (v := ?_) (a' := ?_) (bz_ 10 2) rfl rfl (Qs HT_.out (by kernel_rfl)) (fun _ _ _ h => h) (Or.inl ⟨by rfl, ?_⟩) ?_ ?_; rotate_left
    ·intro w'
     go_simp
     with_reducible rfl
    rotate_left
    ·simp only [Act.put, sA_, sB_, sC_, Qp, Qr]
     rfl
    refine Qx (i := 2) (N := some 14) (v := ?_) (a' := ?_) (bz_ 10 6) rfl rfl (Qs HT_.out (by kernel_rfl)) (fun _ _ _ h => h) (Or.inl ⟨by rfl, ?_⟩) ?_ ?_; rotate_left
    ·intro w'
     go_simp
     with_reducible rfl
    rotate_left
    ·simp only [Act.put, sA_, sB_, sC_, Qp, Qr]
     rfl
    refine take_ (i := 0) (N := some 12) (v := ?_) (a' := ?_) (bz_ 10 7) rfl rfl (Xb HT_.out HW_.out (by kernel_rfl)) (fun _ _ _ h => h) (Or.inl ⟨by rfl, ?_⟩) hHeld ?_ ?_; rotate_left
    ·rintro w' s0
     go_simp
     with_reducible rfl
    rotate_left
    ·simp only [Act.put, sA_, sB_, sC_, Qp, Qr]
     rfl
    refine Qx (i := 3) (N := some 15) (v := ?_) (a' := ?_) (bz_ 10 15) rfl rfl (Qs HT_.out (by kernel_rfl)) (fun _ _ _ h => h) (Or.inl ⟨by rfl, ?_⟩) ?_ ?_; rotate_left
    ·intro w'
     go_simp
     with_reducible rfl
    rotate_left
    ·simp only [Act.put, sA_, sB_, sC_, Qp, Qr]
     rfl
    refine Qx (i := 5) (N := some 17) (v := ?_) (a' := ?_) (bz_ 10 47) rfl rfl (Qs HT_.out (by kernel_rfl)) (fun _ _ _ h => h) (Or.inl ⟨by rfl, ?_⟩) ?_ ?_; rotate_left
    ·intro w'
     go_simp
     with_reducible rfl
    rotate_left
    ·simp only [Act.put, sA_, sB_, sC_, Qp, Qr]
     rfl
    refine Qx (i := 6) (N := some 18) (v := ?_) (a' := ?_) (bz_ 10 111) rfl rfl (Qs HT_.out (by kernel_rfl)) (fun _ _ _ h => h) (Or.inl ⟨by rfl, ?_⟩) ?_ ?_; rotate_left
    ·intro w'
     go_simp
     with_reducible rfl
    rotate_left
    ·simp only [Act.put, sA_, sB_, sC_, Qp, Qr]
     rfl
    refine take_ (i := 4) (N := some 16) (v := ?_) (a' := ?_) (bz_ 10 127) rfl rfl (Xb HT_.out HW_.out (by kernel_rfl)) (fun _ _ _ h => h) (Or.inl ⟨by rfl, ?_⟩) hHeld ?_ ?_; rotate_left
    ·rintro w' s0
     go_simp
     with_reducible rfl
    rotate_left
    ·simp only [Act.put, sA_, sB_, sC_, Qp, Qr]
     rfl
    refine Qx (i := 7) (N := some 19) (v := ?_) (a' := ?_) (bz_ 10 255) rfl rfl (Qs HT_.out (by kernel_rfl)) (fun _ _ _ h => h) (Or.inl ⟨by rfl, ?_⟩) ?_ ?_; rotate_left
    ·intro w'
     go_simp
     with_reducible rfl
    rotate_left
    ·simp only [Act.put, sA_, sB_, sC_, Qp, Qr]
     rfl
    refine Qx (i := 8) (N := some 3) (v := ?_) (a' := ?_) (bz_ 10 511) rfl rfl (Qs HT_.out (by kernel_rfl)) (fun _ _ _ h => h) (Or.inl ⟨by rfl, ?_⟩) ?_ ?_; rotate_left
    ·intro w'
     go_simp
     with_reducible rfl
    rotate_left
    ·simp only [Act.put, sA_, sB_, sC_, Qp, Qr]
     rfl
    refine Km (i := 9) (N := none) (bz_ 10 1023) rfl rfl (Ye HT_.out (by kernel_rfl)) (by decide) (fun K hK => ?_); refine Qfm (w1 := ?_) (by rfl) rfl ?_ ?_; rotate_left
    ·go_simp
     rfl
    refine hK.out _ _ ?_; clear hK K; refine Un (Vb HT_.out (by kernel_rfl)) ?_
    (try simp only [Exit.inBlock, Exit.then])
    clear HT_ HW_; have hcz : Boxed (w2.setCell ⟨c, 0, none⟩ (.string (b.extract (wrap64 ((m : Int) + 1)).toNat b.size))).drew c 9 (.string (b.extract (wrap64 ((m : Int) + 1)).toNat b.size)) := hc.set _; have hzz : (w2.setCell ⟨c, 0, none⟩ (.string (b.extract (wrap64 ((m : Int) + 1)).toNat b.size))).drew.heap.size = w2.heap.size := World.size_setCell ..; obtain ⟨fn, tmps, assign, body, hy, hR⟩ := hY pre (b.extract 0 (wrap64 ((m : Int) + 1)).toNat) _ (JB (.string (b.extract (wrap64 ((m : Int) + 1)).toNat b.size))) (by rw [hx]; simp)
    generalize b.extract 0 (wrap64 ((m : Int) + 1)).toNat = b1 at *
    generalize b.extract (wrap64 ((m : Int) + 1)).toNat b.size = b2 at *
    generalize (w2.setCell ⟨c, 0, none⟩ (.string b2)).drew = wz at *
    gi_wp2
    refine hR.mono ?_; rintro e W3 ⟨rfl, hJ3, hk3⟩; have hc3 : Boxed W3 c 9 (.string b2) := (hk3.block c (by omega)).trans hcz; have hz3 : W.heap.size ≤ W3.heap.size := Nat.le_trans hsz (by rw [← hzz]; exact hk3.size); have CS3 := Qav hc3.cell
    gi_wp2
    go_roundw
    case rel => exact ⟨pre ++ [b1], rest, _, hc3, by rw [hx]; simp, hl, ⟨by have := hbs.out; omega⟩, hJ3, hz3⟩
    case measure => rw [CS3, CS]; exact hlt
   ·have e1 : Kx b = b := if_neg hi
    have e2 : Jv b = ⟨#[]⟩ := if_neg hi; obtain ⟨m, hm⟩ : ∃ m : Int, Vd b = m := ⟨_, rfl⟩
    have CALL : ∀ w, Calls Tryz.prog 50 #[.string b, .int .u8 10] w fun e w' => e = .returned (.int .i64 m) ∧ w' = w := fun w => by rw [← hm]; exact Tryz.strings_IndexByte b 10 w
    rw [hm] at hi
    have lt2 : decide (0 ≤ m) = false := decide_eq_false hi
    rw [e1] at hx; rw [e2] at hl hlt; clear e1 e2
    clear hi hm hcut; have JB : J pre (wr.setCell ⟨c, 0, none⟩ (.string ⟨#[]⟩)) := hJ pre wr _ (some c) hJs (grownBy_setCell' wr c _) (fun r e => by cases e; exact .inl ⟨rfl, _, hc, rfl⟩); obtain ⟨fn, tmps, assign, body, hy, hR⟩ := hY pre b _ JB (by rw [hx]; simp)
    gi_wp2_with (refine ⟨trivial, ?_⟩; gi_at_call 50; refine (callsIn_wide.2 (CALL _)).mono ?_; rintro e w2 ⟨rfl, rfl⟩)
    refine hR.mono ?_; rintro e W3 ⟨rfl, hJ3, hk3⟩; have hc3 : Boxed W3 c 9 (.string ⟨#[]⟩) := (hk3.block c (by omega)).trans (hc.set _); have hz3 : W.heap.size ≤ W3.heap.size := Nat.le_trans hsz (Nat.le_trans (by simp) hk3.size); have CS3 := Qav hc3.cell
    gi_wp2
    go_roundw
    case rel => exact ⟨pre ++ [b], rest, _, hc3, by rw [hx]; simp, hl, ⟨by decide⟩, hJ3, hz3⟩
    case measure => rw [CS3, CS]; exact hlt
theorem Qjw : (Tryz.prog.info? 9).map (fun i => (i.zero, i.size, i.bytes)) = some (some (.string ⟨#[]⟩), 1, 16) := by kernel_rfl
theorem Qjn {β : Type} {n₀ c B D t e : Nat} (hnc : c < n₀) (k : β → Nat) (f : β → List Value) (hD : D ≠ c) (hDB : D < B) :
  Kk c B (fun s W => ∃ v, Boxed W D t v ∧ W.ownsRow n₀ e 1 v (k s) (f s)) := by
 rintro s X Y row ⟨v, hv, hr⟩ hg hrow; refine ⟨v, hv.kept hg (fun e' => ?_), hr.kept hg ?_⟩
 ·rcases hrow D e'.symm with ⟨h, _⟩ | ⟨h, _⟩ <;> omega
 ·rcases hr.2 with ⟨rfl, _⟩ | ⟨g, cap, cur, rfl, hb, hgb, _⟩
  ·exact .inl rfl
  ·refine .inr fun e' => ?_
   rcases hrow g (by simpa [Value.ownBlock] using e'.symm) with ⟨h, _⟩ | ⟨_, o, ho, hc⟩
   ·omega
   ·rw [hgb] at ho; cases ho; cases hc
set_option maxRecDepth 100000 in
set_option maxHeartbeats 2000000 in
theorem Qdh.calls (c : Nat) (s0 : ByteArray) (hs0 : s0.size ≤ 1000000) (xs : List ByteArray) (hxs : Vg s0 xs) (w : World) (hc : Boxed w c 9 (.string s0)) :
  Calls Tryz.prog 48 #[.slice none 0 0, .func (.func 49) #[] #[.pointer (some ⟨c, 0, none⟩)]] w fun e w' => ∃ v, e = .returned v ∧ w'.ownsRow w.heap.size 9 1 v xs.length (xs.map Value.string) ∧ Below c w w' := by
 have hlen := Qil hxs; have hcl := hc.lt; obtain ⟨i0, hi, hz0, hz1, hz2⟩ := info_parts Qjw; refine (callsIn_wide (n := 9)).1 ?_; refine callsIn_of_wp_marks Tryz.func48 rfl trivial ?_ rfl; simp only [Tryz.ntmps48, List.size_toArray, List.length_cons, List.length_nil, Nat.reduceAdd, Nat.reduceSub, Array.replicate_succ, Array.replicate_zero, List.push_toArray, List.append_toArray, List.nil_append, List.cons_append]
 gi_wp2
 have bO := Boxed.new w 46 (.slice none 0 0); have hB0 : Below c w (w.alloc (.cells #[.slice none 0 0] 46)) := (Below.refl c w).alloc (by omega) _
 have hseq : Qmn Fence.wide (9 - 1) Tryz.prog 49 #[.pointer (some ⟨c, 0, none⟩)] c (fun x : ByteArray => #[Value.string x]) (Below (c + 1)) (fun ys => ys = xs) xs.length (w.alloc (.cells #[.slice none 0 0] 46)) :=
  fun l J W hW hJ hY h0 => Qct 8 (by omega) l c s0 hs0 xs hxs J W hJ hY ((hW.block c (by rw [World.size_alloc]; omega)).trans (hc.alloc _)) h0
 refine Qcc rfl (by omega) (gf := 49) (lb := #[.pointer (some ⟨c, 0, none⟩)]) rfl trivial (enters_of Tryz.func49 (by kernel_rfl) rfl)
  hseq (fun h k => belowK_t h k) (belowK_b (by simp; omega)) (Below.refl _ _) (fun _ => rfl)
  (fun pre W => (∃ v, Boxed W w.heap.size 46 v ∧ W.ownsRow w.heap.size 9 1 v pre.length (pre.map Value.string)) ∧ Below c w W)
  (Kk.and (Qjn (n₀ := w.heap.size) (c := c) (D := w.heap.size) (t := 46) (e := 9) hcl (fun pre : List ByteArray => pre.length) (fun pre : List ByteArray => pre.map Value.string) (by omega) (by simp)) (Qhi (by omega) (Nat.le_refl _) (by simp; omega)))
  ⟨⟨_, bO, World.ownsRow_nil _ _ _ _⟩, hB0⟩
  (fun x => { tmps := #[.slice none 0 0, .func (.func 49) #[] #[.pointer (some ⟨c, 0, none⟩)], .pointer (some ⟨w.heap.size, 0, none⟩), undef, .slice none 0 0, .string x, .func (.func 49) #[] #[.pointer (some ⟨c, 0, none⟩)], .string x, undef, undef, undef, undef, undef], defers := [] }) ?assign ?body ?done
 case assign =>
  intro l x W K hK
  gi_wp2
  exact hK
 case body =>
  rintro l pre x W ⟨⟨v, hv, hrow⟩, hB⟩ hlt; have hc := hv.cell; have hsz : w.heap.size ≤ W.heap.size := hB.size
  gi_wp2_with (gi_at_builtin; refine wpListIn_append_own _ rfl _ _ 46 rfl w.heap.size 9 i0 (.string ⟨#[]⟩) 1 16 Tryz.underlying46 hi hz0 hz1 hz2 rfl (by decide) _ _ _ rfl (hrow.alloc _) ⟨W.heap.size, 0, none⟩ 1 1 [.string x] rfl rfl (cell_one_new _ _ _) (by simp [Value.oneCell']) (by have : maxLen = 9223372036854775807 := rfl; omega) (by omega) (by simp; omega) ?_; intro v' w1 hown' hgrow _; obtain ⟨g', cap', rfl⟩ := ownsRow_succ hown'; obtain ⟨hv1, hv2, hr2, hk2, hb2⟩ := hv.appended (by decide) hrow hsz (Nat.le_refl _) hown' hgrow; have hc1 := hv1.cell; have hf1 := hv1.frozen)
  exact ⟨hk2, hb2.mono hcl, ⟨_, hv2, by simpa using hr2⟩, hB.trans (hb2.mono (by omega))⟩
 case done =>
  rintro D ys W hD rfl ⟨⟨v, hv, hrow⟩, hB⟩ hK; have hc := hv.cell
  gi_wp2
  refine ⟨by simp, .inl ⟨_, _, rfl, run_takeDeferred hK, ?_⟩⟩; exact ⟨_, results_tmp rfl _ _ _, v, rfl, ownsRow_putObj hrow _ hK rfl, hB.trans (belowK_b (w := w) (by omega) W D _ _ (by simp at hD; omega) hK rfl rfl)⟩
theorem Qfn.calls (c : Nat) (s0 : ByteArray) (hs0 : s0.size ≤ 1000000) (xs : List ByteArray) (hxs : Vg s0 xs) (w : World) (hc : Boxed w c 9 (.string s0)) :
  Calls Tryz.prog 34 #[.func (.func 49) #[] #[.pointer (some ⟨c, 0, none⟩)]] w fun e w' => ∃ v, e = .returned v ∧ w'.ownsRow w.heap.size 9 1 v xs.length (xs.map Value.string) ∧ Below c w w' := by
 go_enter Tryz.func34, Tryz.ntmps34
 go_wp2_with fail; refine (Qdh.calls c s0 hs0 xs hxs _ hc).mono ?_; rintro e w1 ⟨v, rfl, hr, hb⟩; have HR := Qa.mk hr; have HB := Qa.mk hb; clear hr hb; go_wp2_with fail; go_ret; exact ⟨v, rfl, HR.out, HB.out⟩
theorem Qfu.calls (s : ByteArray) (w : World) :
  Calls Tryz.prog 35 #[.string s] w fun e w' => e = .returned (.func (.func 49) #[] #[.pointer (some ⟨w.heap.size, 0, none⟩)]) ∧ w' = w.alloc (.cells #[.string s] 9) := by
 go_enter Tryz.func35, Tryz.ntmps35
 go_wp2_with fail; go_ret; exact ⟨rfl, rfl⟩
def Qea : Nat → ByteArray → List ByteArray
 | 0, _ => []
 | n + 1, s => if 0 < s.size then Kx s :: Qea n (Jv s) else []
theorem Qbw : ∀ (n : Nat) (s : ByteArray), s.size ≤ n → Vg s (Qea n s)
 | 0, s, h => .nil (by omega)
 | n + 1, s, h => by
  unfold Qea
  split
  ·rename_i h0; have := Qfc h0; exact .cons h0 (Qbw n _ (by omega))
  ·rename_i h0; exact .nil h0
def Xl.f (_k : Nat) (a0 : ByteArray) : Option (List ByteArray) := if a0.size ≤ 1000000 then some (Qea a0.size a0) else none
theorem Xl.calls0 (s : ByteArray) (hs : s.size ≤ 1000000) (xs : List ByteArray) (hxs : Vg s xs) (w : World) :
  Calls Tryz.prog 20 #[.string s] w fun e w' => ∃ v0_ : Value, e = .returned v0_ ∧ Kd.R Kd.string 9 w' w.heap.size (fun _ => True) v0_ xs ∧ Below w.heap.size w w' := by
 go_enter Tryz.func20, Tryz.ntmps20
 go_wp2_with fail; refine (Qfu.calls s _).mono ?_; rintro e w1 ⟨rfl, rfl⟩; go_wp2_with fail; refine (Qfn.calls _ s hs xs hxs _ (Boxed.new _ 9 _)).mono ?_; rintro e w2 ⟨v, rfl, hr, hb⟩; have HR := Qa.mk (Kd.R_of_own (ok := fun _ => True) (h1 := fun _ => rfl) (Qbz hr (by simp) : w2.ownsRow w.heap.size 9 1 v xs.length (Ya Value.string xs)) (fun _ _ => trivial)); have HB := Qa.mk (((Below.refl w.heap.size w).alloc (Nat.le_refl _) _).trans hb); clear hr hb; go_wp2_with fail; go_ret; exact ⟨v, rfl, HR.out, HB.out⟩
theorem Xl.calls (k : Nat) (a0 : ByteArray) (r : List ByteArray) (w : World) (h : Xl.f k a0 = some r) :
  Calls Tryz.prog 20 #[.string a0] w fun e w' => ∃ v0_ : Value, e = .returned (v0_) ∧ Kd.R Kd.string 9 w' w.heap.size (fun _ => True) v0_ r ∧ Below w.heap.size w w' := by
 unfold Xl.f at h
 split at h
 ·rename_i h0
  obtain rfl := Option.some.inj h; exact Xl.calls0 a0 h0 _ (Qbw _ _ (Nat.le_refl _)) w
 ·cases h
end Go.Proofs.YtadafplbgophfaaGreatDoor.PA
end
section
namespace Go.Proofs.YtadafplbgophfaaGreatDoor.PA
open Go.RowKit Go.Proofs.YtadafplbgophfaaGreatDoorW.PrintWords Go.Proofs.YtadafplbgophfaaGreatDoorW.PrintLast Go.Proofs.YtadafplbgophfaaGreatDoorW.PrintMore
namespace FavT
theorem Qbu {s : ByteArray} {i : Nat} (h : i < s.size) : bt s (i : Int) = 10 ↔ s.data.toList[i]? = some ((10 : Int).toNat.toUInt8) := by
 have hl : i < s.data.toList.length := by rw [Array.length_toList]; exact h
 rw [Qjo s i h, List.getElem?_eq_getElem hl]; generalize s.data.toList[i] = x; constructor
 ·intro e
  have : x.toNat = 10 := by omega
  congr 1
  exact UInt8.toNat_inj.mp (by rw [this]; rfl)
 ·intro e
  have := Option.some.inj e; subst this; rfl
theorem Qes {s : ByteArray} {i : Nat} (h : i < s.size) (hi : bt s (i : Int) = 10) (hl : ∀ j : Nat, j < i → bt s (j : Int) ≠ 10) : Vd s = (i : Int) := by
 have hge := Lib.indexByte_ge s.data.toList ((10 : Int).toNat.toUInt8)
 by_cases hc : Vd s < 0
 ·have e : Lib.indexByte s.data.toList ((10 : Int).toNat.toUInt8) = -1 := by unfold Vd at hc; omega
  exact absurd ((Qbu h).1 hi) (Lib.indexByte_none e i)
 ·obtain ⟨o, ho⟩ := Int.eq_ofNat_of_zero_le (Int.not_lt.mp hc)
  obtain ⟨h1, h2⟩ := Lib.indexByte_some (show Lib.indexByte s.data.toList ((10 : Int).toNat.toUInt8) = (o : Int) from ho); rw [ho]
  have hos : o < s.size := by have := Js s; omega
  rcases Nat.lt_trichotomy o i with g | g | g
  ·exact absurd ((Qbu hos).2 h1) (hl o g)
  ·rw [g]
  ·exact absurd ((Qbu h).1 hi) (h2 i g)
theorem Qjq {s : ByteArray} (hl : ∀ j : Nat, j < s.size → bt s (j : Int) ≠ 10) : Vd s = -1 := by
 have hge := Lib.indexByte_ge s.data.toList ((10 : Int).toNat.toUInt8)
 by_cases hc : Vd s < 0
 ·unfold Vd at hc ⊢; omega
 ·obtain ⟨o, ho⟩ := Int.eq_ofNat_of_zero_le (Int.not_lt.mp hc)
  obtain ⟨h1, h2⟩ := Lib.indexByte_some (show Lib.indexByte s.data.toList ((10 : Int).toNat.toUInt8) = (o : Int) from ho)
  have hos : o < s.size := by have := Js s; omega
  exact absurd ((Qbu hos).2 h1) (hl o hos)
theorem Qkt (s : ByteArray) (a b c d : Nat) (h : a + d ≤ b) : (s.extract a b).extract c d = s.extract (a + c) (a + d) := by
 rw [ByteArray.extract_extract]; congr 1; omega
theorem Qjc (s : ByteArray) (hs : s.size ≤ 1000) : ∀ (n i : Nat) (acc : List ByteArray) (fr : Nat), s.size - i ≤ n → i ≤ s.size → fr ≤ i → acc.length ≤ i → (i = s.size → fr = s.size) → (∀ j : Nat, fr ≤ j → j < i → bt s (j : Int) ≠ 10) →
  ∃ ls, Ev (fun k => Qn.l0 k s acc (fr : Int) (i : Int)) (acc ++ ls) ∧ Vg (s.extract fr s.size) ls := by
 intro n
 induction n with
 | zero =>
  intro i acc fr h1 h2 h3 h4 h5 h6
  have hi : i = s.size := by omega
  have hf := h5 hi; refine ⟨[], ?_, .nil (by rw [ByteArray.size_extract]; omega)⟩; rw [List.append_nil]; refine Ev.step (f := fun _ => some acc) (fun k => ?_) (Ev.now _); simp only [Qn.l0]; rw [if_neg (by omega)]
 | succ n ih =>
  intro i acc fr h1 h2 h3 h4 h5 h6
  by_cases hi : i < s.size
  ·have hw := Qqz (i := i) (by omega)
   have g1 : (i : Int) < (s.size : Int) := by omega
   have g2 : (0 : Int) ≤ (i : Int) := by omega
   have g3 : (0 : Int) ≤ (fr : Int) := by omega
   have g4 : (fr : Int) ≤ ((i + 1 : Nat) : Int) := by omega
   have g5 : ((i + 1 : Nat) : Int) ≤ (s.size : Int) := by omega
   have g6 : acc.length < 8796093022208 := by omega
   have hz : (s.extract fr s.size).size = s.size - fr := by rw [ByteArray.size_extract]; omega
   have low : ∀ j : Nat, j < i - fr → bt (s.extract fr s.size) (j : Int) ≠ 10 := fun j hj => by rw [Qcy s fr s.size j (by omega) (by omega)]; exact h6 (fr + j) (by omega) (by omega)
   by_cases hb : bt s (i : Int) = 10
   ·obtain ⟨ls, he, hl⟩ := ih (i + 1) (acc ++ [s.extract fr (i + 1)]) (i + 1) (by omega) (by omega) (by omega) (by rw [List.length_append, List.length_singleton]; omega) (fun h => h) (fun j a b => by omega)
    have hc : Vd (s.extract fr s.size) = ((i - fr : Nat) : Int) := Qes (by omega) (by rw [Qcy s fr s.size (i - fr) (by omega) (by omega), show fr + (i - fr) = i by omega]; exact hb) low
    have q1 : Kx (s.extract fr s.size) = s.extract fr (i + 1) := by
     unfold Kx; rw [if_pos (by omega), hc, show (((i - fr : Nat) : Int) + 1).toNat = i - fr + 1 by omega, Qkt s fr s.size 0 (i - fr + 1) (by omega), Nat.add_zero, show fr + (i - fr + 1) = i + 1 by omega]
    have q2 : Jv (s.extract fr s.size) = s.extract (i + 1) s.size := by
     unfold Jv; rw [if_pos (by omega), hc, hz, show (((i - fr : Nat) : Int) + 1).toNat = i - fr + 1 by omega, Qkt s fr s.size _ _ (by omega), show fr + (i - fr + 1) = i + 1 by omega, show fr + (s.size - fr) = s.size by omega]
    refine ⟨s.extract fr (i + 1) :: ls, Ev.step (fun k => ?_) (by rw [List.append_assoc] at he; exact he), ?_⟩
    ·simp only [Qn.l0]
     rw [hw, if_pos g1, if_pos g2, if_pos hb, if_pos g3, if_pos g4, if_pos g5, if_pos g6, Int.toNat_natCast, Int.toNat_natCast]
    ·rw [← q1]
     exact .cons (by omega) (by rw [q2]; exact hl)
   ·by_cases hl : i + 1 = s.size
    ·have g7 : ((i + 1 : Nat) : Int) = (s.size : Int) := by omega
     have hc : Vd (s.extract fr s.size) = -1 := Qjq (fun j hj => by
      by_cases hj2 : j < i - fr
      ·exact low j hj2
      ·rw [Qcy s fr s.size j (by omega) (by omega), show fr + j = i by omega]; exact hb)
     have q1 : Kx (s.extract fr s.size) = s.extract fr (i + 1) := by unfold Kx; rw [if_neg (by omega), hl]
     have q2 : Jv (s.extract fr s.size) = ⟨#[]⟩ := by unfold Jv; rw [if_neg (by omega)]
     refine ⟨[s.extract fr (i + 1)], Ev.step (f := fun k => Qn.l0 k s (acc ++ [s.extract fr (i + 1)]) ((i + 1 : Nat) : Int) ((i + 1 : Nat) : Int)) (fun k => ?_) (Ev.step (f := fun _ => some (acc ++ [s.extract fr (i + 1)])) (fun k => ?_) (Ev.now _)), ?_⟩
     ·simp only [Qn.l0]
      rw [hw, if_pos g1, if_pos g2, if_neg hb, if_pos g7, if_pos g3, if_pos g4, if_pos g5, if_pos g6, Int.toNat_natCast, Int.toNat_natCast]
     ·simp only [Qn.l0]; rw [if_neg (by omega)]
     ·rw [← q1]
      exact .cons (by omega) (by rw [q2]; exact .nil (by decide))
    ·have g7 : ¬ ((i + 1 : Nat) : Int) = (s.size : Int) := by omega
     obtain ⟨ls, he, hl2⟩ := ih (i + 1) acc fr (by omega) (by omega) (by omega) (by omega) (fun h => absurd h hl) (fun j a b => by
      by_cases e : j = i
      ·rw [e]; exact hb
      ·exact h6 j a (by omega))
     refine ⟨ls, Ev.step (fun k => ?_) he, hl2⟩; simp only [Qn.l0]; rw [hw, if_pos g1, if_pos g2, if_neg hb, if_neg g7]
  ·have hi2 : i = s.size := by omega
   have hf := h5 hi2; refine ⟨[], ?_, .nil (by rw [ByteArray.size_extract]; omega)⟩; rw [List.append_nil]; refine Ev.step (f := fun _ => some acc) (fun k => ?_) (Ev.now _); simp only [Qn.l0]; rw [if_neg (by omega)]
theorem Qdm {s : ByteArray} {l m : List ByteArray} (h : Vg s l) : Vg s m → l = m := by
 induction h generalizing m with
 | nil h => intro k; cases k with
  | nil _ => rfl
  | cons h2 _ => exact absurd h2 h
 | @cons s l h hl ih => intro k; cases k with
  | nil h2 => exact absurd h h2
  | cons _ hk => rw [ih hk]
theorem Qks (s : ByteArray) : s.extract 0 s.size = s := ByteArray.extract_zero_size
theorem Qki (s : ByteArray) (hs : s.size ≤ 1000) : ∃ ls, Ev (fun k => Qn.f k s) ls ∧ Vg s ls ∧ ∀ k, Xl.f k s = some ls := by
 obtain ⟨ls, he, hl⟩ := Qjc s hs s.size 0 [] 0 (by omega) (by omega) (by omega) (Nat.le_refl _) (fun h => h) (fun j a b => by omega)
 rw [Qks] at hl
 refine ⟨ls, he, hl, fun k => ?_⟩; unfold Xl.f; rw [if_pos (by omega), Qdm (Qbw s.size s (Nat.le_refl _)) hl]
theorem Qlu (s : ByteArray) : (Kx s).data.toList ++ (Jv s).data.toList = s.data.toList := by
 have hc := Js s; unfold Kx Jv
 by_cases h : 0 ≤ Vd s
 ·rw [if_pos h, if_pos h]
  generalize hm : (Vd s + 1).toNat = m
  have hms : m ≤ s.size := by omega
  have e := ByteArray.extract_append_extract (a := s) (i := 0) (j := m) (k := s.size); rw [← Array.toList_append, ← ByteArray.data_append, e, Nat.min_eq_left (by omega), Nat.max_eq_right hms, Qks]
 ·rw [if_neg h, if_neg h]
  simp
theorem Qal {s : ByteArray} {l : List ByteArray} (h : Vg s l) : (l.map (·.data.toList)).flatten = s.data.toList := by
 induction h with
 | @nil s h =>
  have : s.data.toList.length = 0 := by rw [Array.length_toList]; exact Nat.eq_zero_of_not_pos h
  rw [List.length_eq_zero_iff.1 this]; rfl
 | @cons s l h hl ih =>
  rw [List.map_cons, List.flatten_cons, ih]; exact Qlu s
def full (x : ByteArray) : Prop := 0 < x.size ∧ Vd x = (x.size : Int) - 1
def Qfd (x : ByteArray) : Prop := 0 < x.size ∧ (Vd x = -1 ∨ Vd x = (x.size : Int) - 1)
theorem full.ok {x : ByteArray} (h : full x) : Qfd x := ⟨h.1, .inr h.2⟩
theorem Qib {s : ByteArray} {i : Nat} (h : Vd s = (i : Int)) : i < s.size ∧ bt s (i : Int) = 10 ∧ ∀ j : Nat, j < i → bt s (j : Int) ≠ 10 := by
 have hlt := Js s; obtain ⟨h1, h2⟩ := Lib.indexByte_some (show Lib.indexByte s.data.toList ((10 : Int).toNat.toUInt8) = (i : Int) from h)
 have hi : i < s.size := by omega
 exact ⟨hi, (Qbu hi).2 h1, fun j hj e => h2 j hj ((Qbu (by omega)).1 e)⟩
theorem Qpy (s : ByteArray) : -1 ≤ Vd s := Lib.indexByte_ge s.data.toList ((10 : Int).toNat.toUInt8)
theorem Qjv {s : ByteArray} (h : 0 ≤ Vd s) : full (Kx s) := by
 obtain ⟨i, hi⟩ := Int.eq_ofNat_of_zero_le h; obtain ⟨h1, h2, h3⟩ := Qib hi
 have e : Kx s = s.extract 0 (i + 1) := by unfold Kx; rw [if_pos h, hi]; congr 1
 have hz : (s.extract 0 (i + 1)).size = i + 1 := by rw [ByteArray.size_extract]; omega
 have hc : Vd (s.extract 0 (i + 1)) = (i : Int) := Qes (by omega) (by rw [Qcy s 0 (i + 1) i (by omega) (by omega), Nat.zero_add]; exact h2) (fun j hj => by rw [Qcy s 0 (i + 1) j (by omega) (by omega), Nat.zero_add]; exact h3 j hj); rw [e]; exact ⟨by omega, by rw [hc, hz]; omega⟩
theorem Qaw {s : ByteArray} {l : List ByteArray} (h : Vg s l) : (∀ x ∈ l, Qfd x) ∧ ∀ x ∈ l.dropLast, full x := by
 induction h with
 | nil h => exact ⟨fun x hx => by simp at hx, fun x hx => by simp at hx⟩
 | @cons s l h hl ih =>
  by_cases hc : 0 ≤ Vd s
  ·have hf := Qjv hc
   refine ⟨fun x hx => ?_, fun x hx => ?_⟩
   ·rcases List.mem_cons.1 hx with rfl | hx
    ·exact hf.ok
    ·exact ih.1 x hx
   ·cases l with
    | nil => simp at hx
    | cons y l =>
     rw [List.dropLast_cons_of_ne_nil (by simp)] at hx
     rcases List.mem_cons.1 hx with rfl | hx
     ·exact hf
     ·exact ih.2 x hx
  ·have hge := Qpy s
   have e1 : Kx s = s := if_neg hc; have e2 : Jv s = ⟨#[]⟩ := if_neg hc
   rw [e2] at hl
   have hl0 : l = [] := by
    cases hl with
    | nil _ => rfl
    | cons h2 _ => exact absurd h2 (by decide)
   subst hl0; refine ⟨fun x hx => ?_, fun x hx => by simp at hx⟩; rw [List.mem_singleton.1 hx, e1]; exact ⟨h, .inl (by omega)⟩
end FavT
end Go.Proofs.YtadafplbgophfaaGreatDoor.PA
end
section
namespace Go.Proofs.YtadafplbgophfaaGreatDoor.PA
open Go.RowKit Go.Proofs.YtadafplbgophfaaGreatDoorW.PrintWords Go.Proofs.YtadafplbgophfaaGreatDoorW.PrintLast Go.Proofs.YtadafplbgophfaaGreatDoorW.PrintMore
def Qms (a : ByteArray) : UInt8 := a.data.toList.headD 0
theorem Qmt {a : ByteArray} (h : a.size = 1) : a = ⟨#[Qms a]⟩ := by
 obtain ⟨⟨l⟩⟩ := a
 match l, h with
 | [x], _ => rfl
def Xg.f (_k : Nat) (a0 a1 : ByteArray) : Option Int := if a1.size = 1 then some (Lib.indexByte a0.data.toList (Qms a1)) else none
theorem Xg.mono : ∀ a0 a1 k, LeO (Xg.f k a0 a1) (Xg.f (k + 1) a0 a1) := fun _ _ _ => LeO.refl _
theorem Xg.calls (k : Nat) (a0 a1 : ByteArray) (r : Int) (w : World) (h : Xg.f k a0 a1 = some r) :
  Calls Tryz.prog 36 #[.string a0, .string a1] w fun e w' => e = .returned (.int .i64 r) ∧ Below w.heap.size w w' := by
 unfold Xg.f at h
 split at h
 case isFalse => cases h
 rename_i hG
 simp only [Option.some.injEq] at h
 subst h; have e := Qmt hG
 generalize Qms a1 = c at e
 subst e; refine (Tryz.strings_Index_one a0 c w).mono ?_; rintro e w' ⟨rfl, rfl⟩; exact ⟨rfl, Below.refl _ _⟩
def strconv_Itoa.f (_k : Nat) (n : Int) : Option ByteArray := if 0 ≤ n ∧ n < 100 then some ⟨(Lib.decDigits n.toNat).toArray⟩ else none
theorem strconv_Itoa.calls (k : Nat) (n : Int) (r : ByteArray) (w : World) (h : strconv_Itoa.f k n = some r) :
  Calls Tryz.prog 54 #[.int .i64 n] w fun e w' => e = .returned (.string r) ∧ Below w.heap.size w w' := by
 unfold strconv_Itoa.f at h
 split at h
 case isFalse => cases h
 rename_i hG
 obtain ⟨i, rfl⟩ := Int.eq_ofNat_of_zero_le hG.1
 simp only [Option.some.injEq, Int.toNat_natCast] at h
 subst h; refine (Tryz.strconv_Itoa_small i (by omega) w).mono ?_; rintro e w' ⟨rfl, rfl⟩; exact ⟨rfl, Below.refl _ _⟩
def Qha (l : List ByteArray) (sep : ByteArray) : List UInt8 := Lib.join (l.map (·.data.toList)) sep.data.toList
def Yn.f (_k : Nat) (l0 : List ByteArray) (a1 : ByteArray) : Option ByteArray := if l0.length ≤ 140737488355328 ∧ (Qha l0 a1).length ≤ 140737488355328 then some ⟨(Qha l0 a1).toArray⟩ else none
theorem Yn.calls (k : Nat) (A0 : Option Addr) (c0 : Nat) (l0 : List ByteArray) (a1 : ByteArray) (r : ByteArray) (w : World) (hr0 : Kd.C Kd.string w A0 l0.length l0) (hc0 : l0.length ≤ c0) (h : Yn.f k l0 a1 = some r) :
  Calls Tryz.prog 37 #[.slice A0 l0.length c0, .string a1] w fun e w' => e = .returned (.string r) ∧ Below w.heap.size w w' := by
 unfold Yn.f at h
 split at h
 case isFalse => cases h
 rename_i hG
 obtain ⟨hN, hJ⟩ := hG
 simp only [Option.some.injEq] at h
 subst h
 by_cases hl : l0 = []
 ·subst hl
  refine (Tryz.strings_Join_none A0 c0 a1 w).mono ?_; rintro e w' ⟨rfl, rfl⟩; exact ⟨rfl, Below.refl _ _⟩
 ·have hpos : 0 < l0.length := List.length_pos_iff.2 hl
  obtain ⟨ad, rfl, hc⟩ := Kd.at_string hr0 0 (Int.le_refl _) (by omega)
  have hs : ad.spot = none := by
   cases hsp : ad.spot with
   | none => rfl
   | some v =>
    unfold World.cell? at hc
    split at hc
    ·rw [if_pos (by simp [Addr.add, hsp])] at hc; cases hc
    ·cases hc
  obtain ⟨bk, o, sp⟩ := ad
  simp only at hs
  subst hs; refine (Tryz.strings_Join bk o c0 l0 a1 w (fun j x hj => ?_) (World.block_lt_of_cell? w _ hc) hN hc0 hJ).mono ?_
  ·have hjl : j < l0.length := (List.getElem?_eq_some_iff.1 hj).1
   obtain ⟨ad, he, hcj⟩ := Kd.at_string hr0 (j : Int) (by omega) (by omega)
   cases he
   have e : Zy ByteArray.empty l0 (j : Int) = x := by simp [Zy, List.getD_eq_getElem?_getD, hj]
   rw [e] at hcj
   by_cases hj0 : j = 0
   ·subst hj0
    simpa [Addr.add] using hcj
   ·simpa [Addr.add, hj0] using hcj
  ·rintro e w' ⟨rfl, hb⟩
   exact ⟨rfl, hb⟩
end Go.Proofs.YtadafplbgophfaaGreatDoor.PA
end
section
namespace Go.Proofs.YtadafplbgophfaaGreatDoor.PA
open Go.RowKit Go.Proofs.YtadafplbgophfaaGreatDoorW.PrintWords Go.Proofs.YtadafplbgophfaaGreatDoorW.PrintLast Go.Proofs.YtadafplbgophfaaGreatDoorW.PrintMore
attribute [local go_sem] Xv Xx Yl Ym Xo Xp Xw Xy
def Zk.l0 : Nat → List ByteArray → List ByteArray → Int → Int → Option (Bool)
 | 0, _, _, _, _ => none
 | k + 1, x0, x6, x7, x8 => if x8 < x7 then (if 0 ≤ x8 then (if x8 < (x6.length : Int) then ((Xg.f k (Zy ByteArray.empty x6 x8) (⟨#[10]⟩ : ByteArray)).bind fun a3 => (if (Zy ByteArray.empty x6 x8).toList = ([] : List UInt8) then (some false) else (if a3 ≥ 0 then (if a3 = (wrap64 (((Zy ByteArray.empty x6 x8).size : Int) - 1)) then (if a3 < 0 then (if x8 < (wrap64 ((x0.length : Int) - 1)) then (some false) else (Zk.l0 k x0 x6 x7 (wrap64 (x8 + 1)))) else (Zk.l0 k x0 x6 x7 (wrap64 (x8 + 1)))) else (some false)) else (if a3 < 0 then (if x8 < (wrap64 ((x0.length : Int) - 1)) then (some false) else (Zk.l0 k x0 x6 x7 (wrap64 (x8 + 1)))) else (Zk.l0 k x0 x6 x7 (wrap64 (x8 + 1))))))) else (none)) else (none)) else (some true)
def Zk.f (k : Nat) (l0 : List ByteArray) : Option (Bool) := Zk.l0 k l0 l0 (l0.length : Int) 0
theorem Zk.mono_l : ∀ k, (∀ y0 y1 y2 y3, LeO (Zk.l0 k y0 y1 y2 y3) (Zk.l0 (k + 1) y0 y1 y2 y3))
 | 0 => fun _ _ _ _ r h => by simp [Zk.l0] at h
 | k + 1 => by
  have ih0 := Zk.mono_l k
  ·intro y0 y1 y2 y3
   unfold Zk.l0
   repeat' first
   | (with_reducible exact ih0 _ _ _ _)
   | (with_reducible exact Xg.mono _ _ _)
   | (with_reducible exact LeO.refl _)
   | (with_reducible exact LeO.none _)
   | (with_reducible refine LeO.ite ?_ ?_)
   | (with_reducible refine LeO.bind ?_ (fun _ => ?_))
   | exact ih0 _ _ _ _
   | exact Xg.mono _ _ _
   | exact LeO.none _
   | refine LeO.ite ?_ ?_
   | refine LeO.bind ?_ (fun _ => ?_)
theorem Zk.mono : ∀ a0 k, LeO (Zk.f k a0) (Zk.f (k + 1) a0) := by
 intro a0 k; have ih0 := Zk.mono_l k; unfold Zk.f
 repeat' first
   | (with_reducible exact ih0 _ _ _ _)
   | (with_reducible exact Xg.mono _ _ _)
   | (with_reducible exact LeO.refl _)
   | (with_reducible exact LeO.none _)
   | (with_reducible refine LeO.ite ?_ ?_)
   | (with_reducible refine LeO.bind ?_ (fun _ => ?_))
   | exact ih0 _ _ _ _
   | exact Xg.mono _ _ _
   | exact LeO.none _
   | refine LeO.ite ?_ ?_
   | refine LeO.bind ?_ (fun _ => ?_)
set_option maxHeartbeats 8000000 in
set_option maxRecDepth 100000 in
theorem Zk.calls (k : Nat) (A0 : Option Addr) (c0 : Nat) (l0 : List ByteArray) (r : Bool) (w : World) (hr0 : Kd.C Kd.string w A0 l0.length l0) (hc0 : l0.length ≤ c0) (h : Zk.f k l0 = some r) :
  Calls Tryz.prog 23 #[.slice A0 l0.length c0] w fun e w' => e = .returned (.bool r) ∧ Below w.heap.size w w' := by
 have HR0 := Qa.mk hr0; have HC0 := Qa.mk hc0; clear hr0 hc0; have HB := Qa.mk (Below.refl w.heap.size w); have H : (Zk.l0 k l0 l0 (l0.length : Int) 0) = some r := h; clear h; have H' := Qa.mk H; clear H
 go_enter Tryz.func23, Tryz.ntmps23
 go_wp2
 go_loopg [8] k (fun kq v8 w' => ∃ (a1 : Int), v8 = .int .i64 a1 ∧ Qa (Zk.l0 kq l0 l0 (l0.length : Int) a1 = some r) ∧ Qa (kq ≤ k) ∧ Qa (Below w.heap.size w w'))
 case atStart => exact ⟨(0), (by first | rfl | (simp; done) | (simp [*]; done)), H', ⟨Nat.le_refl _⟩, ⟨by repeat (first | (with_reducible first | exact HB.out | apply Qc | apply Qb | apply Qd) | exact HB.out)⟩⟩
 case round =>
  clear H'; obtain ⟨a1, rfl, HA, HK1, HB⟩ := hrel
  cases gk with
  | zero => exact absurd HA.out (by simp [Zk.l0])
  | succ k1 =>
   have H := HA.out; clear HA
   simp only [Zk.l0] at H
   by_cases c2 : a1 < (l0.length : Int)
   ·rw [if_pos c2] at H
    have b2 : decide (a1 < (l0.length : Int)) = true := decide_eq_true c2; clear c2
    by_cases c3 : 0 ≤ a1
    ·rw [if_pos c3] at H
     have b8 : decide (0 ≤ a1) = true := decide_eq_true c3; clear c3
     by_cases c4 : a1 < (l0.length : Int)
     ·rw [if_pos c4] at H
      have b9 : decide (a1 < (l0.length : Int)) = true := decide_eq_true c4; clear c4; replace H := Option.bind_eq_some_iff.mp H; obtain ⟨a3, A50, H⟩ := H; replace H : (if (Zy ByteArray.empty l0 a1).toList = ([] : List UInt8) then (some false) else (if a3 ≥ 0 then (if a3 = (wrap64 (((Zy ByteArray.empty l0 a1).size : Int) - 1)) then (if a3 < 0 then (if a1 < (wrap64 ((l0.length : Int) - 1)) then (some false) else (Zk.l0 k1 l0 l0 (l0.length : Int) (wrap64 (a1 + 1)))) else (Zk.l0 k1 l0 l0 (l0.length : Int) (wrap64 (a1 + 1)))) else (some false)) else (if a3 < 0 then (if a1 < (wrap64 ((l0.length : Int) - 1)) then (some false) else (Zk.l0 k1 l0 l0 (l0.length : Int) (wrap64 (a1 + 1)))) else (Zk.l0 k1 l0 l0 (l0.length : Int) (wrap64 (a1 + 1)))))) = some r := H; have A5 := Qa.mk A50; clear A50
      by_cases c6 : (Zy ByteArray.empty l0 a1).toList = ([] : List UInt8)
      ·rw [if_pos c6] at H
       have b3 : ((Zy ByteArray.empty l0 a1).toList == ([] : List UInt8)) = true := beq_iff_eq.mpr c6; have b4 : ((Zy ByteArray.empty l0 a1).toList != ([] : List UInt8)) = false := bne_eq_false_iff_eq.mpr c6; clear c6; obtain rfl := Option.some.inj H; have a4 : 0 ≤ (a1 : Int) := of_decide_eq_true (by first | (with_reducible assumption) | assumption); have a5 : a1 < (l0.length : Int) := of_decide_eq_true (by first | (with_reducible assumption) | assumption); obtain ⟨a7, a6, a2⟩ := Kd.at_string HR0.out a1 a4 a5
       cases a6; replace a2 := (HB.out.cell (World.block_lt_of_cell? w _ a2)).trans a2; replace a4 := eq_true a4; replace a5 := eq_true a5; go_wp2_with (first | ((with_reducible refine Zx (f := 36) rfl ?_); refine Yq (some 14) rfl rfl Tryz.func36 (by kernel_rfl) rfl #[.string (Zy ByteArray.empty l0 a1), .string (⟨#[10]⟩ : ByteArray)] rfl (by (try simp only [List.map_toArray, List.map_cons, List.map_nil]); first | done | rfl | (simp only [List.length_drop, List.length_take]; rfl)) ?_; (with_reducible refine (Xg.calls k1 (Zy ByteArray.empty l0 a1) (⟨#[10]⟩ : ByteArray) a3 _ A5.out).mono ?_); rintro e w7 ⟨rfl, hb⟩; refine ⟨_, rfl, ?_⟩; have n0_ := Qa.mk (Qk (by repeat (first | (with_reducible first | exact HB.out | apply Qc | apply Qb | apply Qd) | exact HB.out)) hb); clear HB; have HB := n0_; clear n0_; (try clear hb); (try clear hb2); (try clear hk); (try clear hi))); go_ret; exact ⟨by first | rfl | (simp [Qz, Za] <;> rfl) | (simp [*, Qz, Za] <;> rfl), by repeat (first | (with_reducible first | exact HB.out | apply Qc | apply Qb | apply Qd) | exact HB.out)⟩
      ·rw [if_neg c6] at H
       have b3 : ((Zy ByteArray.empty l0 a1).toList == ([] : List UInt8)) = false := beq_eq_false_iff_ne.mpr c6; have b4 : ((Zy ByteArray.empty l0 a1).toList != ([] : List UInt8)) = true := bne_iff_ne.mpr c6
       by_cases c8 : a3 ≥ 0
       ·rw [if_pos c8] at H
        have b5 : decide (0 ≤ a3) = true := decide_eq_true c8; clear c8
        by_cases c9 : a3 = (wrap64 (((Zy ByteArray.empty l0 a1).size : Int) - 1))
        ·rw [if_pos c9] at H
         have b6 : (a3 == (wrap64 (((Zy ByteArray.empty l0 a1).size : Int) - 1))) = true := beq_iff_eq.mpr c9; have b7 : (a3 != (wrap64 (((Zy ByteArray.empty l0 a1).size : Int) - 1))) = false := bne_eq_false_iff_eq.mpr c9; clear c9
         by_cases c10 : a3 < 0
         ·rw [if_pos c10] at H
          have a8 : decide (a3 < 0) = true := decide_eq_true c10; clear c10
          by_cases c11 : a1 < (wrap64 ((l0.length : Int) - 1))
          ·rw [if_pos c11] at H
           have a9 : decide (a1 < (wrap64 ((l0.length : Int) - 1))) = true := decide_eq_true c11; clear c11; obtain rfl := Option.some.inj H; have a4 : 0 ≤ (a1 : Int) := of_decide_eq_true (by first | (with_reducible assumption) | assumption); have a5 : a1 < (l0.length : Int) := of_decide_eq_true (by first | (with_reducible assumption) | assumption); obtain ⟨a7, a6, a2⟩ := Kd.at_string HR0.out a1 a4 a5
           cases a6; replace a2 := (HB.out.cell (World.block_lt_of_cell? w _ a2)).trans a2; replace a4 := eq_true a4; replace a5 := eq_true a5; go_wp2_with (first | ((with_reducible refine Zx (f := 36) rfl ?_); refine Yq (some 14) rfl rfl Tryz.func36 (by kernel_rfl) rfl #[.string (Zy ByteArray.empty l0 a1), .string (⟨#[10]⟩ : ByteArray)] rfl (by (try simp only [List.map_toArray, List.map_cons, List.map_nil]); first | done | rfl | (simp only [List.length_drop, List.length_take]; rfl)) ?_; (with_reducible refine (Xg.calls k1 (Zy ByteArray.empty l0 a1) (⟨#[10]⟩ : ByteArray) a3 _ A5.out).mono ?_); rintro e w12 ⟨rfl, hb⟩; refine ⟨_, rfl, ?_⟩; have n0_ := Qa.mk (Qk (by repeat (first | (with_reducible first | exact HB.out | apply Qc | apply Qb | apply Qd) | exact HB.out)) hb); clear HB; have HB := n0_; clear n0_; (try clear hb); (try clear hb2); (try clear hk); (try clear hi))); go_ret; exact ⟨by first | rfl | (simp [Qz, Za] <;> rfl) | (simp [*, Qz, Za] <;> rfl), by repeat (first | (with_reducible first | exact HB.out | apply Qc | apply Qb | apply Qd) | exact HB.out)⟩
          ·rw [if_neg c11] at H
           have a9 : decide (a1 < (wrap64 ((l0.length : Int) - 1))) = false := decide_eq_false c11; clear c11; have H' := Qa.mk H; clear H; have a4 : 0 ≤ (a1 : Int) := of_decide_eq_true (by first | (with_reducible assumption) | assumption); have a5 : a1 < (l0.length : Int) := of_decide_eq_true (by first | (with_reducible assumption) | assumption); obtain ⟨a7, a6, a2⟩ := Kd.at_string HR0.out a1 a4 a5
           cases a6; replace a2 := (HB.out.cell (World.block_lt_of_cell? w _ a2)).trans a2; replace a4 := eq_true a4; replace a5 := eq_true a5; go_wp2_with (first | ((with_reducible refine Zx (f := 36) rfl ?_); refine Yq (some 14) rfl rfl Tryz.func36 (by kernel_rfl) rfl #[.string (Zy ByteArray.empty l0 a1), .string (⟨#[10]⟩ : ByteArray)] rfl (by (try simp only [List.map_toArray, List.map_cons, List.map_nil]); first | done | rfl | (simp only [List.length_drop, List.length_take]; rfl)) ?_; (with_reducible refine (Xg.calls k1 (Zy ByteArray.empty l0 a1) (⟨#[10]⟩ : ByteArray) a3 _ A5.out).mono ?_); rintro e w13 ⟨rfl, hb⟩; refine ⟨_, rfl, ?_⟩; have n0_ := Qa.mk (Qk (by repeat (first | (with_reducible first | exact HB.out | apply Qc | apply Qb | apply Qd) | exact HB.out)) hb); clear HB; have HB := n0_; clear n0_; (try clear hb); (try clear hb2); (try clear hk); (try clear hi)))
           go_roundg k1
           case measure => have := HK1.out; omega
           case rel => exact ⟨(wrap64 (a1 + 1)), (by first | rfl | (simp; done) | (simp [*]; done)), H', ⟨by have := HK1.out; omega⟩, ⟨by repeat (first | (with_reducible first | exact HB.out | apply Qc | apply Qb | apply Qd) | exact HB.out)⟩⟩
         ·rw [if_neg c10] at H
          have a8 : decide (a3 < 0) = false := decide_eq_false c10; clear c10; have H' := Qa.mk H; clear H; have a4 : 0 ≤ (a1 : Int) := of_decide_eq_true (by first | (with_reducible assumption) | assumption); have a5 : a1 < (l0.length : Int) := of_decide_eq_true (by first | (with_reducible assumption) | assumption); obtain ⟨a7, a6, a2⟩ := Kd.at_string HR0.out a1 a4 a5
          cases a6; replace a2 := (HB.out.cell (World.block_lt_of_cell? w _ a2)).trans a2; replace a4 := eq_true a4; replace a5 := eq_true a5; go_wp2_with (first | ((with_reducible refine Zx (f := 36) rfl ?_); refine Yq (some 14) rfl rfl Tryz.func36 (by kernel_rfl) rfl #[.string (Zy ByteArray.empty l0 a1), .string (⟨#[10]⟩ : ByteArray)] rfl (by (try simp only [List.map_toArray, List.map_cons, List.map_nil]); first | done | rfl | (simp only [List.length_drop, List.length_take]; rfl)) ?_; (with_reducible refine (Xg.calls k1 (Zy ByteArray.empty l0 a1) (⟨#[10]⟩ : ByteArray) a3 _ A5.out).mono ?_); rintro e w14 ⟨rfl, hb⟩; refine ⟨_, rfl, ?_⟩; have n0_ := Qa.mk (Qk (by repeat (first | (with_reducible first | exact HB.out | apply Qc | apply Qb | apply Qd) | exact HB.out)) hb); clear HB; have HB := n0_; clear n0_; (try clear hb); (try clear hb2); (try clear hk); (try clear hi)))
          go_roundg k1
          case measure => have := HK1.out; omega
          case rel => exact ⟨(wrap64 (a1 + 1)), (by first | rfl | (simp; done) | (simp [*]; done)), H', ⟨by have := HK1.out; omega⟩, ⟨by repeat (first | (with_reducible first | exact HB.out | apply Qc | apply Qb | apply Qd) | exact HB.out)⟩⟩
        ·rw [if_neg c9] at H
         have b6 : (a3 == (wrap64 (((Zy ByteArray.empty l0 a1).size : Int) - 1))) = false := beq_eq_false_iff_ne.mpr c9; have b7 : (a3 != (wrap64 (((Zy ByteArray.empty l0 a1).size : Int) - 1))) = true := bne_iff_ne.mpr c9; obtain rfl := Option.some.inj H; have a4 : 0 ≤ (a1 : Int) := of_decide_eq_true (by first | (with_reducible assumption) | assumption); have a5 : a1 < (l0.length : Int) := of_decide_eq_true (by first | (with_reducible assumption) | assumption); obtain ⟨a7, a6, a2⟩ := Kd.at_string HR0.out a1 a4 a5
         cases a6; replace a2 := (HB.out.cell (World.block_lt_of_cell? w _ a2)).trans a2; replace a4 := eq_true a4; replace a5 := eq_true a5; go_wp2_with (first | ((with_reducible refine Zx (f := 36) rfl ?_); refine Yq (some 14) rfl rfl Tryz.func36 (by kernel_rfl) rfl #[.string (Zy ByteArray.empty l0 a1), .string (⟨#[10]⟩ : ByteArray)] rfl (by (try simp only [List.map_toArray, List.map_cons, List.map_nil]); first | done | rfl | (simp only [List.length_drop, List.length_take]; rfl)) ?_; (with_reducible refine (Xg.calls k1 (Zy ByteArray.empty l0 a1) (⟨#[10]⟩ : ByteArray) a3 _ A5.out).mono ?_); rintro e w15 ⟨rfl, hb⟩; refine ⟨_, rfl, ?_⟩; have n0_ := Qa.mk (Qk (by repeat (first | (with_reducible first | exact HB.out | apply Qc | apply Qb | apply Qd) | exact HB.out)) hb); clear HB; have HB := n0_; clear n0_; (try clear hb); (try clear hb2); (try clear hk); (try clear hi))); go_ret; exact ⟨by first | rfl | (simp [Qz, Za] <;> rfl) | (simp [*, Qz, Za] <;> rfl), by repeat (first | (with_reducible first | exact HB.out | apply Qc | apply Qb | apply Qd) | exact HB.out)⟩
       ·rw [if_neg c8] at H
        have b5 : decide (0 ≤ a3) = false := decide_eq_false c8; clear c8
        by_cases c16 : a3 < 0
        ·rw [if_pos c16] at H
         have b0 : decide (a3 < 0) = true := decide_eq_true c16; clear c16
         by_cases c17 : a1 < (wrap64 ((l0.length : Int) - 1))
         ·rw [if_pos c17] at H
          have b1 : decide (a1 < (wrap64 ((l0.length : Int) - 1))) = true := decide_eq_true c17; clear c17; obtain rfl := Option.some.inj H; have a4 : 0 ≤ (a1 : Int) := of_decide_eq_true (by first | (with_reducible assumption) | assumption); have a5 : a1 < (l0.length : Int) := of_decide_eq_true (by first | (with_reducible assumption) | assumption); obtain ⟨a7, a6, a2⟩ := Kd.at_string HR0.out a1 a4 a5
          cases a6; replace a2 := (HB.out.cell (World.block_lt_of_cell? w _ a2)).trans a2; replace a4 := eq_true a4; replace a5 := eq_true a5; go_wp2_with (first | ((with_reducible refine Zx (f := 36) rfl ?_); refine Yq (some 14) rfl rfl Tryz.func36 (by kernel_rfl) rfl #[.string (Zy ByteArray.empty l0 a1), .string (⟨#[10]⟩ : ByteArray)] rfl (by (try simp only [List.map_toArray, List.map_cons, List.map_nil]); first | done | rfl | (simp only [List.length_drop, List.length_take]; rfl)) ?_; (with_reducible refine (Xg.calls k1 (Zy ByteArray.empty l0 a1) (⟨#[10]⟩ : ByteArray) a3 _ A5.out).mono ?_); rintro e w18 ⟨rfl, hb⟩; refine ⟨_, rfl, ?_⟩; have n0_ := Qa.mk (Qk (by repeat (first | (with_reducible first | exact HB.out | apply Qc | apply Qb | apply Qd) | exact HB.out)) hb); clear HB; have HB := n0_; clear n0_; (try clear hb); (try clear hb2); (try clear hk); (try clear hi))); go_ret; exact ⟨by first | rfl | (simp [Qz, Za] <;> rfl) | (simp [*, Qz, Za] <;> rfl), by repeat (first | (with_reducible first | exact HB.out | apply Qc | apply Qb | apply Qd) | exact HB.out)⟩
         ·rw [if_neg c17] at H
          have b1 : decide (a1 < (wrap64 ((l0.length : Int) - 1))) = false := decide_eq_false c17; clear c17; have H' := Qa.mk H; clear H; have a4 : 0 ≤ (a1 : Int) := of_decide_eq_true (by first | (with_reducible assumption) | assumption); have a5 : a1 < (l0.length : Int) := of_decide_eq_true (by first | (with_reducible assumption) | assumption); obtain ⟨a7, a6, a2⟩ := Kd.at_string HR0.out a1 a4 a5
          cases a6; replace a2 := (HB.out.cell (World.block_lt_of_cell? w _ a2)).trans a2; replace a4 := eq_true a4; replace a5 := eq_true a5; go_wp2_with (first | ((with_reducible refine Zx (f := 36) rfl ?_); refine Yq (some 14) rfl rfl Tryz.func36 (by kernel_rfl) rfl #[.string (Zy ByteArray.empty l0 a1), .string (⟨#[10]⟩ : ByteArray)] rfl (by (try simp only [List.map_toArray, List.map_cons, List.map_nil]); first | done | rfl | (simp only [List.length_drop, List.length_take]; rfl)) ?_; (with_reducible refine (Xg.calls k1 (Zy ByteArray.empty l0 a1) (⟨#[10]⟩ : ByteArray) a3 _ A5.out).mono ?_); rintro e w19 ⟨rfl, hb⟩; refine ⟨_, rfl, ?_⟩; have n0_ := Qa.mk (Qk (by repeat (first | (with_reducible first | exact HB.out | apply Qc | apply Qb | apply Qd) | exact HB.out)) hb); clear HB; have HB := n0_; clear n0_; (try clear hb); (try clear hb2); (try clear hk); (try clear hi)))
          go_roundg k1
          case measure => have := HK1.out; omega
          case rel => exact ⟨(wrap64 (a1 + 1)), (by first | rfl | (simp; done) | (simp [*]; done)), H', ⟨by have := HK1.out; omega⟩, ⟨by repeat (first | (with_reducible first | exact HB.out | apply Qc | apply Qb | apply Qd) | exact HB.out)⟩⟩
        ·rw [if_neg c16] at H
         have b0 : decide (a3 < 0) = false := decide_eq_false c16; clear c16; have H' := Qa.mk H; clear H; have a4 : 0 ≤ (a1 : Int) := of_decide_eq_true (by first | (with_reducible assumption) | assumption); have a5 : a1 < (l0.length : Int) := of_decide_eq_true (by first | (with_reducible assumption) | assumption); obtain ⟨a7, a6, a2⟩ := Kd.at_string HR0.out a1 a4 a5
         cases a6; replace a2 := (HB.out.cell (World.block_lt_of_cell? w _ a2)).trans a2; replace a4 := eq_true a4; replace a5 := eq_true a5; go_wp2_with (first | ((with_reducible refine Zx (f := 36) rfl ?_); refine Yq (some 14) rfl rfl Tryz.func36 (by kernel_rfl) rfl #[.string (Zy ByteArray.empty l0 a1), .string (⟨#[10]⟩ : ByteArray)] rfl (by (try simp only [List.map_toArray, List.map_cons, List.map_nil]); first | done | rfl | (simp only [List.length_drop, List.length_take]; rfl)) ?_; (with_reducible refine (Xg.calls k1 (Zy ByteArray.empty l0 a1) (⟨#[10]⟩ : ByteArray) a3 _ A5.out).mono ?_); rintro e w20 ⟨rfl, hb⟩; refine ⟨_, rfl, ?_⟩; have n0_ := Qa.mk (Qk (by repeat (first | (with_reducible first | exact HB.out | apply Qc | apply Qb | apply Qd) | exact HB.out)) hb); clear HB; have HB := n0_; clear n0_; (try clear hb); (try clear hb2); (try clear hk); (try clear hi)))
         go_roundg k1
         case measure => have := HK1.out; omega
         case rel => exact ⟨(wrap64 (a1 + 1)), (by first | rfl | (simp; done) | (simp [*]; done)), H', ⟨by have := HK1.out; omega⟩, ⟨by repeat (first | (with_reducible first | exact HB.out | apply Qc | apply Qb | apply Qd) | exact HB.out)⟩⟩
     ·rw [if_neg c4] at H
      exact absurd H (by simp)
    ·rw [if_neg c3] at H
     exact absurd H (by simp)
   ·rw [if_neg c2] at H
    have b2 : decide (a1 < (l0.length : Int)) = false := decide_eq_false c2; clear c2; obtain rfl := Option.some.inj H
    go_wp2
    go_ret; exact ⟨by first | rfl | (simp [Qz, Za] <;> rfl) | (simp [*, Qz, Za] <;> rfl), by repeat (first | (with_reducible first | exact HB.out | apply Qc | apply Qb | apply Qd) | exact HB.out)⟩
end Go.Proofs.YtadafplbgophfaaGreatDoor.PA
end
section
namespace Go.Proofs.YtadafplbgophfaaGreatDoor.PA
open Go.RowKit Go.Proofs.YtadafplbgophfaaGreatDoorW.PrintWords Go.Proofs.YtadafplbgophfaaGreatDoorW.PrintLast Go.Proofs.YtadafplbgophfaaGreatDoorW.PrintMore
open Jdg
theorem Qlh (l : List S48) (p : Int × Int × Int) (h : tot l ≤ 1000000) (h0 : 0 ≤ p.1 ∧ p.1 ≤ 1000000000 ∧ 0 ≤ p.2.1 ∧ p.2.1 ≤ 1000000000 ∧ 0 ≤ p.2.2 ∧ p.2.2 ≤ 1000000000) :
  (l.map Yo).foldl Qai p = (p.1 + (cnt 0 l : Nat), p.2.1 + (cnt 1 l : Nat), p.2.2 + (cnt 2 l : Nat)) ∨ 1000000000 < p.1 + tot l ∨ 1000000000 < p.2.1 + tot l ∨ 1000000000 < p.2.2 + tot l := by
 induction l generalizing p with
 | nil => left; simp [cnt]
 | cons x l ih =>
  have e2 : ∀ r, cnt r (x :: l) = cnt r [x] + cnt r l := fun r => Kv r [x] l
  have e3 : tot (x :: l) = tot [x] + tot l := Ka [x] l
  rw [Qcu] at e3
  by_cases hb : 1000000000 < p.1 + tot (x :: l) ∨ 1000000000 < p.2.1 + tot (x :: l) ∨ 1000000000 < p.2.2 + tot (x :: l)
  ·right; exact hb
  left
  have hf : (Yo x).f1.length = x.f1.length := rfl; have hk : (Yo x).f0 = x.f0 := rfl; simp only [List.map_cons, List.foldl_cons, e2, Qbg]; unfold Qai; rw [hf, hk]
  rcases p with ⟨p0, p1, p2⟩
  simp only at hb h0 ⊢
  by_cases c0 : x.f0 = 0
  ·rw [if_pos c0, w64 (by omega) (by omega)]
   rcases ih (p0 + x.f1.length, p1, p2) (by omega) (by simp only; omega) with h | h
   ·rw [if_pos c0, if_neg (by omega), if_neg (by omega), ]
    refine h.trans ?_; simp only [Prod.mk.injEq]; omega
   ·simp only at h; omega
  ·rw [if_neg c0, if_neg c0]
   by_cases c1 : x.f0 = 1
   ·rw [if_pos c1, w64 (by omega) (by omega)]
    rcases ih (p0, p1 + x.f1.length, p2) (by omega) (by simp only; omega) with h | h
    ·rw [if_pos c1, if_neg (by omega)]
     refine h.trans ?_; simp only [Prod.mk.injEq]; omega
    ·simp only at h; omega
   ·rw [if_neg c1, if_neg c1]
    by_cases c2 : x.f0 = 2
    ·rw [if_pos c2, if_pos c2, w64 (by omega) (by omega)]
     rcases ih (p0, p1, p2 + x.f1.length) (by omega) (by simp only; omega) with h | h
     ·refine h.trans ?_
      simp only [Prod.mk.injEq]; omega
     ·simp only at h; omega
    ·rw [if_neg c2, if_neg c2]
     rcases ih (p0, p1, p2) (by omega) (by simp only; omega) with h | h
     ·refine h.trans ?_
      simp only [Prod.mk.injEq]; omega
     ·simp only at h; omega
theorem Qll {l : List S48} (h : tot l ≤ 1000000) : Zq.f 0 (l.map Yo) = some ((cnt 0 l : Int), (cnt 1 l : Int), (cnt 2 l : Int)) := by
 unfold Zq.f
 rcases Qlh l (0, 0, 0) h (by simp) with e | e
 ·rw [e]; simp
 ·simp only at e; omega
namespace FavT
theorem Qfg (xs : List S68) {i : Nat} (h : i < xs.length) : Zd xs (i : Int) = xs[i] := by simp [Zd, List.getD_eq_getElem?_getD, h]
theorem Qiq (xs : List S40) {i : Nat} (h : i < xs.length) : Zm xs (i : Int) = xs[i] := by simp [Zm, List.getD_eq_getElem?_getD, h]
theorem Qkc (xs : List ByteArray) {i : Nat} (h : i < xs.length) : Zy ByteArray.empty xs (i : Int) = xs[i] := by simp [Zy, List.getD_eq_getElem?_getD, h]
theorem Qca (l : List S48) {i : Nat} (h : i < l.length) : Qy (l.map Yo) (i : Int) = Yo l[i] := by rw [rdT49_nat' _ (by simpa using h)]; simp
theorem Qnn (l : List S49) (L n i c : Int) (t u : List ByteArray) (acc : List S68) (hb : acc.length + t.length ≤ 1000000) {r : List S68}
  (hE : Ev (fun k => Ze.l0 k (acc ++ t.map fun s => (⟨c, s⟩ : S68)) l n (wrap64 (i + 1))) r) :
  Ev (fun k => Ze.l1 k acc l n i t (t.length : Int) 0 c u) r := by
 have := Ev.down (P := fun j => Ev (fun k => Ze.l1 k (acc ++ (t.take j).map fun s => (⟨c, s⟩ : S68)) l n i t (t.length : Int) (j : Int) c u) r) t.length ?_ ?_
 ·simpa using this
 ·refine Ev.step (fun k => ?_) hE
  simp only [Ze.l1]; rw [if_neg (by omega), List.take_length]
 ·intro j hj h
  refine Ev.step (fun k => ?_) h; simp only [Ze.l1]; rw [if_pos (by omega), if_pos (by omega), if_pos (by omega), if_pos (by rw [List.length_append, List.length_map, List.length_take]; omega), Vu (by omega), Qkc t hj, List.append_assoc, ← Qfo (fun s => (⟨c, s⟩ : S68)) t hj]
theorem Qin {l : List S48} (h : Few l) : Ev (fun k => Ze.f k (l.map Yo)) (mks l) := by
 have h1 := h.1; have h2 := h.2; refine Ev.down (P := fun i => Ev (fun k => Ze.l0 k (mks (l.take i)) (l.map Yo) ((l.map Yo).length : Int) (i : Int)) (mks l)) l.length ?_ ?_
 ·refine Ev.step (f := fun _ => some (mks l)) (fun k => ?_) (Ev.now _)
  simp only [Ze.l0]; rw [if_neg (by rw [List.length_map]; omega), List.take_length]
 ·intro i hi hE
  refine Ev.step (f := fun k => Ze.l1 k (mks (l.take i)) (l.map Yo) ((l.map Yo).length : Int) (i : Int) l[i].f1 (l[i].f1.length : Int) 0 l[i].f0 l[i].f1) (fun k => ?_) ?_
  ·simp only [Ze.l0]
   rw [if_pos (by rw [List.length_map]; omega), if_pos (by omega), if_pos (by rw [List.length_map]; omega), Qca l hi]; rfl
  ·refine Qnn (l.map Yo) 0 _ _ _ _ _ _ ?_ ?_
   ·rw [Qbj, Qnx hi]
    exact Nat.le_trans (Qdt l (i + 1)) h2
   ·rw [Vu (by omega)]
    have e : mks (l.take (i + 1)) = mks (l.take i) ++ l[i].f1.map fun s => (⟨l[i].f0, s⟩ : S68) := by
     rw [List.take_succ_eq_append_getElem hi, Qjy, Qhg]; rfl
    rw [← e]; exact hE
theorem Qig : ∀ (m : List S68) (out : List S48), NE out → NE (Qdj out m)
 | [], out, h => h
 | x :: m, out, h => by rw [Qbv]; exact Qig m _ (Qaq h _ _)
theorem Qqa (m : List S68) : NE (grp m) := Qig m [] (fun x hx => by simp at hx)
theorem Qcj {m : List S68} (h : m.length ≤ 1000000) : Few (grp m) := by
 have h1 := Qhe (Qqa m); have h2 := Qoj m; exact ⟨by omega, by omega⟩
theorem Qnd {m : List S68} {i : Nat} (h : i < m.length) : grp (m.take (i + 1)) = pt (grp (m.take i)) m[i].f0 [m[i].f1] := by
 unfold grp Qdj; rw [List.take_succ_eq_append_getElem h, List.foldl_append]; rfl
theorem Qix {α : Type} (i : List α) (x y : α) : (i ++ [x]).set i.length y = i ++ [y] := by simp
theorem Qje {m : List S68} (h : m.length ≤ 1000000) : Ev (fun k => Qw.f k m) ((grp m).map Yo) := by
 refine Ev.down (P := fun i => Ev (fun k => Qw.l0 k ((grp (m.take i)).map Yo) m (m.length : Int) (i : Int)) ((grp m).map Yo)) m.length ?_ ?_
 ·refine Ev.step (f := fun _ => some ((grp m).map Yo)) (fun k => ?_) (Ev.now _)
  simp only [Qw.l0]; rw [if_neg (by omega), List.take_length]
 ·intro i hi hE
  have hf := Qcj (m := m.take i) (by rw [List.length_take]; omega)
  rw [Qnd hi] at hE
  refine Ev.step (fun k => ?_) hE
  have g1 : (i : Int) < (m.length : Int) := by omega
  have g2 : (0 : Int) ≤ (i : Int) := by omega
  simp only [Qw.l0]; rw [if_pos g1, if_pos g2, if_pos g1, Vu (by omega), Qfg m hi]; generalize m[i] = x
  generalize grp (m.take i) = g at hf ⊢
  have hl := hf.1
  rcases Qcb g with rfl | ⟨j, y, rfl⟩
  ·rw [if_neg (by simp), if_pos (by simp), Qhk (by simp)]
   rfl
  ·have hy : y.f1.length ≤ 1000000 := by
    have := hf.el (i := j.length) (by simp)
    simpa using this
   simp only [List.length_append, List.length_cons, List.length_nil] at hl
   have e1 : (((j ++ [y]).map Yo).length : Int) = (j.length : Int) + 1 := by simp
   have e2 : Qy ((j ++ [y]).map Yo) (j.length : Int) = Yo y := by rw [Qca _ (by simp)]; simp
   have e3 : wrap64 ((j.length : Int) + 1 - 1) = (j.length : Int) := by rw [w64 (by omega) (by omega)]; omega
   have e4 : (Yo y).f0 = y.f0 := rfl; have e5 : (Yo y).f1 = y.f1 := rfl; rw [e1, e3, e2, if_pos (by omega), if_pos (by omega), if_pos (by omega), e4, e5]
   by_cases hk : y.f0 = x.f0
   ·rw [if_pos hk, if_pos (show y.f1.length < 8796093022208 by omega), Qam (by simp) hk, Int.toNat_natCast, List.map_append, List.map_append]
    rw [show j.length = (j.map Yo).length by simp]
    show Qw.l0 k (((j.map Yo) ++ [Yo y]).set (j.map Yo).length _) _ _ _ = _
    rw [Qix, ← hk]; rfl
   ·rw [if_neg hk, if_pos (by simp; omega), Qco (by simp) hk]
    simp [Yo]
theorem Qhm {l : List S48} (q : Int) (h : Few l) : Ev (fun k => Zo.f k (l.map Yo) q) (Yk q l) := by
 have h1 := h.1; have h2 := h.2; refine Ev.down (P := fun i => Ev (fun k => Zo.l0 k q (Yk q (l.take i)) (l.map Yo) ((l.map Yo).length : Int) (i : Int)) (Yk q l)) l.length ?_ ?_
 ·refine Ev.step (f := fun _ => some (Yk q l)) (fun k => ?_) (Ev.now _)
  simp only [Zo.l0]; rw [if_neg (by rw [List.length_map]; omega), List.take_length]
 ·intro i hi hE
  have hel := h.el hi; have hs : (Yk q (l.take i)).length ≤ 1000000 := Nat.le_trans (Qfl q _) (Nat.le_trans (Qdt l i) h2)
  rw [Qmf q hi] at hE
  refine Ev.step (fun k => ?_) hE; simp only [Zo.l0]; rw [if_pos (by rw [List.length_map]; omega), if_pos (by omega), if_pos (by rw [List.length_map]; omega), Qca l hi, Vu (by omega)]; have e0 : (Yo l[i]).f0 = l[i].f0 := rfl; have e1 : (Yo l[i]).f1 = l[i].f1 := rfl; rw [e0, e1]
  by_cases c0 : l[i].f0 = 0
  ·rw [if_pos c0, if_pos (by omega), if_pos (.inl c0)]
  ·rw [if_neg c0]
   by_cases c1 : l[i].f0 = q
   ·rw [if_pos c1, if_pos (by omega), if_pos (.inr c1)]
   ·rw [if_neg c1, if_neg (by simp [c0, c1]), List.append_nil]
theorem Qjb {l : List S48} (h : Few l) (k : Nat) : Xi.f k (l.map Yo) = some (((Yk 1 l).length : Int), ((Yk 2 l).length : Int)) := by
 have e : Zq.f k (l.map Yo) = some ((cnt 0 l : Int), (cnt 1 l : Int), (cnt 2 l : Int)) := Qll h.2; have l1 := Qcs l (q := 1) (by decide); have l2 := Qcs l (q := 2) (by decide); have b1 := Nat.le_trans (Qfl 1 l) h.2; have b2 := Nat.le_trans (Qfl 2 l) h.2; unfold Xi.f; rw [e, Option.bind_some, w64 (by simp only; omega) (by simp only; omega), w64 (by simp only; omega) (by simp only; omega)]
 congr 2
 ·simp only; omega
 ·simp only; omega
end FavT
end Go.Proofs.YtadafplbgophfaaGreatDoor.PA
end
section
namespace Go.Proofs.YtadafplbgophfaaGreatDoor.PA
open Go.RowKit Go.Proofs.YtadafplbgophfaaGreatDoorW.PrintWords Go.Proofs.YtadafplbgophfaaGreatDoorW.PrintLast Go.Proofs.YtadafplbgophfaaGreatDoorW.PrintMore
open Jdg
namespace FavT
def w40 (p : Nat × Nat) : S40 := ⟨(p.1 : Int), (p.2 : Int)⟩
theorem Qfa {m : List S68} {i : Nat} (h : i < m.length) : (Yi m).drop i = decide (m[i].f0 = 0) :: (Yi m).drop (i + 1) := by
  have hl : i < (Yi m).length := by rw [Yw]; exact h
  rw [List.drop_eq_getElem_cons hl]
  congr 1
  simp [Yi]
theorem Qno {a b : Nat} {x y : Int} (hx : x = (a : Int)) (hy : y = (b : Int)) : mn x y = ((min a b : Nat) : Int) := by unfold mn; split <;> omega
theorem Qnp {a b : Nat} {x : Int} (hx : x = (a : Int) - (b : Int)) : mx x 0 = ((a - b : Nat) : Int) := by unfold mx; split <;> omega
theorem Qqg (m : List S68) (ar : Nat) (hm : m.length ≤ 1000000) (har : ar ≤ 1000000) : ∀ (d s last i : Nat) (done : List S40), m.length - i ≤ d → i ≤ m.length → last ≤ i → done.length ≤ i →
    Ev (fun k => Zc.l0 k m (ar : Int) (done ++ [w40 (s, min (last + ar) m.length)]) (last : Int) m (m.length : Int) (i : Int)) (done ++ (rgo ar m.length ((Yi m).drop i) s last i).map w40) := by
  have fin : ∀ (s last : Nat) (done : List S40), Ev (fun k => Zc.l0 k m (ar : Int) (done ++ [w40 (s, min (last + ar) m.length)]) (last : Int) m (m.length : Int) (m.length : Int)) (done ++ (rgo ar m.length ((Yi m).drop m.length) s last m.length).map w40) := by
    intro s last done
    refine Ev.step (f := fun _ => some (done ++ [w40 (s, min (last + ar) m.length)])) (fun k => ?_) ?_
    · simp only [Zc.l0]; rw [if_neg (by omega)]
    · rw [List.drop_of_length_le (by rw [Yw]; omega)]
      exact Ev.now _
  intro d
  induction d with
  | zero => intro s last i done h1 h2 h3 h4; obtain rfl : i = m.length := by omega
            exact fin s last done
  | succ d ih =>
    intro s last i done h1 h2 h3 h4
    by_cases hi : i < m.length
    · have g1 : (i : Int) < (m.length : Int) := by omega
      have g2 : (0 : Int) ≤ (i : Int) := by omega
      have nx := Vu (i := i) (by omega)
      rw [Qfa hi]
      have ex := Qfg m hi
      generalize m[i] = x at *
      by_cases c : x.f0 = 0
      · rw [decide_eq_true c, rgo, if_pos rfl]
        refine Ev.step (fun k => ?_) (ih s last (i + 1) done (by omega) hi (by omega) (by omega))
        simp only [Zc.l0]
        rw [if_pos g1, if_pos g2, if_pos g1, ex, if_pos c, nx]
      · rw [decide_eq_false c, rgo, if_neg (by simp)]
        have len : ((done ++ [w40 (s, min (last + ar) m.length)]).length : Int) = (done.length : Int) + 1 := by simp
        have hw1 : wrap64 ((i : Int) - (last : Int)) = (i : Int) - (last : Int) := w64 (by omega) (by omega)
        have hw2 : wrap64 (2 * (ar : Int)) = 2 * (ar : Int) := w64 (by omega) (by omega)
        have hw3 : wrap64 ((done.length : Int) + 1 - 1) = (done.length : Int) := by rw [w64 (by omega) (by omega)]; omega
        have hw4 : mn (wrap64 (((i + 1 : Nat) : Int) + (ar : Int))) (m.length : Int) = ((min (i + 1 + ar) m.length : Nat) : Int) := Qno (by rw [w64 (by omega) (by omega)]; omega) rfl
        have hw5 : mx (wrap64 ((i : Int) - (ar : Int))) 0 = ((i - ar : Nat) : Int) := Qnp (w64 (by omega) (by omega))
        have er : (Zm (done ++ [w40 (s, min (last + ar) m.length)]) (done.length : Int)).f0 = (s : Int) := by rw [Qiq _ (by simp)]; simp [w40]
        by_cases e : i ≤ last + 2 * ar
        · rw [if_pos e]
          refine Ev.step (fun k => ?_) (ih s (i + 1) (i + 1) done (by omega) hi (Nat.le_refl _) (by omega))
          simp only [Zc.l0]
          rw [if_pos g1, if_pos g2, if_pos g1, ex, if_neg c, len, if_pos (by omega), hw1, hw2, if_pos (by omega), hw3, if_pos (by omega), if_pos (by omega), nx, hw4, er, Int.toNat_natCast, Qix]
          rfl
        · rw [if_neg e, List.map_cons, List.append_cons done _ (List.map w40 _)]
          refine Ev.step (fun k => ?_) (ih (i - ar) (i + 1) (i + 1) (done ++ [w40 (s, min (last + ar) m.length)]) (by omega) hi (Nat.le_refl _) (by rw [List.length_append, List.length_singleton]; omega))
          simp only [Zc.l0]
          rw [if_pos g1, if_pos g2, if_pos g1, ex, if_neg c, len, if_pos (by omega), hw1, hw2, if_neg (by omega), if_pos (by rw [List.length_append, List.length_singleton]; omega), nx, hw4, hw5]
          rfl
    · obtain rfl : i = m.length := by omega
      exact fin s last done
theorem Qqh (m : List S68) (ar : Nat) (hm : m.length ≤ 1000000) (har : ar ≤ 1000000) : ∀ (d i last : Nat), m.length - i ≤ d → i ≤ m.length →
    Ev (fun k => Zc.l0 k m (ar : Int) [] (last : Int) m (m.length : Int) (i : Int)) ((rgs ar m.length ((Yi m).drop i) i).map w40) := by
  have fin : ∀ last : Nat, Ev (fun k => Zc.l0 k m (ar : Int) [] (last : Int) m (m.length : Int) (m.length : Int)) ((rgs ar m.length ((Yi m).drop m.length) m.length).map w40) := by
    intro last
    refine Ev.step (f := fun _ => some ([] : List S40)) (fun k => ?_) ?_
    · simp only [Zc.l0]; rw [if_neg (by omega)]
    · rw [List.drop_of_length_le (by rw [Yw]; omega)]
      exact Ev.now _
  intro d
  induction d with
  | zero => intro i last h1 h2; obtain rfl : i = m.length := by omega
            exact fin last
  | succ d ih =>
    intro i last h1 h2
    by_cases hi : i < m.length
    · have g1 : (i : Int) < (m.length : Int) := by omega
      have g2 : (0 : Int) ≤ (i : Int) := by omega
      have nx := Vu (i := i) (by omega)
      rw [Qfa hi]
      have ex := Qfg m hi
      generalize m[i] = x at *
      by_cases c : x.f0 = 0
      · rw [decide_eq_true c, rgs, if_pos rfl]
        refine Ev.step (fun k => ?_) (ih (i + 1) last (by omega) hi)
        simp only [Zc.l0]
        rw [if_pos g1, if_pos g2, if_pos g1, ex, if_pos c, nx]
      · rw [decide_eq_false c, rgs, if_neg (by simp)]
        have hw4 : mn (wrap64 (((i + 1 : Nat) : Int) + (ar : Int))) (m.length : Int) = ((min (i + 1 + ar) m.length : Nat) : Int) := Qno (by rw [w64 (by omega) (by omega)]; omega) rfl
        have hw5 : mx (wrap64 ((i : Int) - (ar : Int))) 0 = ((i - ar : Nat) : Int) := Qnp (w64 (by omega) (by omega))
        refine Ev.step (fun k => ?_) (Qqg m ar hm har (m.length - (i + 1)) (i - ar) (i + 1) (i + 1) [] (Nat.le_refl _) hi (Nat.le_refl _) (Nat.zero_le _))
        simp only [Zc.l0]
        rw [if_pos g1, if_pos g2, if_pos g1, ex, if_neg c, if_neg (by simp), if_pos (by simp), nx, hw4, hw5]
        rfl
    · obtain rfl : i = m.length := by omega
      exact fin last
theorem Qma (m : List S68) (ar : Nat) (hm : m.length ≤ 1000000) (har : ar ≤ 1000000) : Ev (fun k => Zc.f k m (ar : Int)) ((Qho ar (Yi m)).map w40) := by
  have := Qqh m ar hm har m.length 0 0 (by omega) (by omega)
  unfold Qho
  rw [Yw]
  rw [List.drop_zero] at this
  exact this
theorem Qfs.each {q : List Bool} : ∀ {r : List (Nat × Nat)} {a : Nat}, Qfs q a r → ∀ w ∈ r, w.1 < w.2 ∧ w.2 ≤ q.length
  | [], _, _, w, hw => by simp at hw
  | v :: r, a, ⟨h1, h2, h3, _, _, _, h7⟩, w, hw => by
    rcases List.mem_cons.1 hw with rfl | hw
    · exact ⟨h2, h3⟩
    · exact h7.each w hw
theorem Qed (ar L : Nat) : ∀ (r : List Bool) (s last i : Nat), (rgo ar L r s last i).length ≤ r.length + 1
  | [], _, _, _ => by simp [rgo]
  | x :: r, s, last, i => by
    rw [rgo]
    have h1 := Qed ar L r s last (i + 1)
    have h2 := Qed ar L r s (i + 1) (i + 1)
    have h3 := Qed ar L r (i - ar) (i + 1) (i + 1)
    split
    · simp only [List.length_cons]; omega
    · split
      · simp only [List.length_cons]; omega
      · simp only [List.length_cons]; omega
theorem Qlb (ar L : Nat) : ∀ (r : List Bool) (i : Nat), (rgs ar L r i).length ≤ r.length
  | [], _ => by simp [rgs]
  | x :: r, i => by
    rw [rgs]
    have h1 := Qlb ar L r (i + 1)
    have h3 := Qed ar L r (i - ar) (i + 1) (i + 1)
    split
    · simp only [List.length_cons]; omega
    · simp only [List.length_cons]; omega
theorem Qjh (ar : Nat) (q : List Bool) : (Qho ar q).length ≤ q.length := Qlb ar q.length q 0
def seg (m : List S68) (a b : Nat) : List S68 := (m.take b).drop a
def hk (m : List S68) (w : Nat × Nat) : S45 := ⟨((sd 1 (m.take w.1)).length : Int), ((sd 2 (m.take w.1)).length : Int), (grp (seg m w.1 w.2)).map Yo⟩
theorem Qqw (m : List S68) (ws : List (Nat × Nat)) (hm : m.length ≤ 1000000) (hl : ws.length ≤ 1000000) (hw : ∀ w ∈ ws, w.1 < w.2 ∧ w.2 ≤ m.length) : Ev (fun k => Zv.l0 k m [] (ws.map w40) ((ws.map w40).length : Int) 0) (ws.map (hk m)) := by
  refine Ev.down (P := fun i => Ev (fun k => Zv.l0 k m ((ws.take i).map (hk m)) (ws.map w40) ((ws.map w40).length : Int) (i : Int)) (ws.map (hk m))) ws.length ?_ ?_
  · refine Ev.step (f := fun _ => some (ws.map (hk m))) (fun k => ?_) (Ev.now _)
    simp only [Zv.l0]
    rw [if_neg (by rw [List.length_map]; omega), List.take_length]
  · intro i hi hE
    obtain ⟨b1, b2⟩ := hw _ (List.getElem_mem hi)
    rw [← Qfo (hk m) ws hi] at hE
    have e : Zm (ws.map w40) (i : Int) = w40 ws[i] := by rw [Qiq _ (by simpa using hi)]; simp
    have nx := Vu (i := i) (by omega)
    have f0 : (w40 ws[i]).f0 = (ws[i].1 : Int) := rfl
    have f1 : (w40 ws[i]).f1 = (ws[i].2 : Int) := rfl
    have hln : ((ws.map w40).length : Int) = (ws.length : Int) := by simp
    have hlk : ((ws.take i).map (hk m)).length < 3518437208883 := by rw [List.length_map, List.length_take]; omega
    generalize ws[i] = w at *
    have l1 : (m.take w.1).length ≤ 1000000 := by rw [List.length_take]; omega
    have l2 : (seg m w.1 w.2).length ≤ 1000000 := by unfold seg; rw [List.length_drop, List.length_take]; omega
    have q1 := Qje l1
    have q2 := Qje l2
    have q3 := Qjb (Qcj l1)
    rw [Jt, Jt] at q3
    refine Ev.step (f := fun k => (Qw.f k (m.take w.1)).bind fun a1 => (Xi.f k a1).bind fun a0 => (Qw.f k (seg m w.1 w.2)).bind fun a2 => Zv.l0 k m ((ws.take i).map (hk m) ++ [⟨a0.1, a0.2, a2⟩]) (ws.map w40) ((ws.map w40).length : Int) ((i + 1 : Nat) : Int)) (fun k => ?_) (Ev.bind q1 (Ev.bind (Ev.congr (fun k => q3 k) (Ev.now _)) (Ev.bind q2 hE)))
    have c1 : (0 : Int) ≤ (w.1 : Int) := by omega
    have c2 : (w.1 : Int) ≤ (m.length : Int) := by omega
    have c3 : (w.1 : Int) ≤ (w.2 : Int) := by omega
    have c4 : (w.2 : Int) ≤ (m.length : Int) := by omega
    simp only [Zv.l0]
    rw [hln, if_pos (by omega), if_pos (by omega), if_pos (by omega), e, f0, f1, if_pos c1, if_pos c2, nx]
    simp only [if_pos c3, if_pos c4, if_pos hlk, Int.toNat_natCast]
    rfl
theorem Qqx {sc : List S48} (h : Few sc) (ar : Nat) (har : ar ≤ 1000000) : Ev (fun k => Zv.f k (sc.map Yo) (ar : Int)) ((Qho ar (Yi (mks sc))).map (hk (mks sc))) := by
  have hm : (mks sc).length ≤ 1000000 := by rw [Qbj]; exact h.2
  have hx : mx (ar : Int) 0 = (ar : Int) := by unfold mx; split <;> omega
  have hl := Qjh ar (Yi (mks sc))
  rw [Yw] at hl
  unfold Zv.f
  refine Ev.bind (Qin h) (Ev.bind (f := fun k t => Zv.l0 k (mks sc) [] t (t.length : Int) 0) (by rw [hx]; exact Qma _ ar hm har) (Qqw (mks sc) _ hm (by omega) (fun w hw => ?_)))
  have := (Qhp ar (Yi (mks sc))).each w hw
  rwa [Yw] at this
end FavT
end Go.Proofs.YtadafplbgophfaaGreatDoor.PA
end
section
namespace Go.Proofs.YtadafplbgophfaaGreatDoor.PA
open Go.RowKit Go.Proofs.YtadafplbgophfaaGreatDoorW.PrintWords Go.Proofs.YtadafplbgophfaaGreatDoorW.PrintLast Go.Proofs.YtadafplbgophfaaGreatDoorW.PrintMore
attribute [local go_sem] Xv Xx Yl Ym Xo Xp Xw Xy
def Xn.f (k : Nat) (l0 : List ByteArray) : Option (ByteArray) := (Yn.f k l0 (⟨#[]⟩ : ByteArray)).bind fun a0 => (some a0)
set_option maxHeartbeats 8000000 in
set_option maxRecDepth 100000 in
theorem Xn.calls (k : Nat) (A0 : Option Addr) (c0 : Nat) (l0 : List ByteArray) (r : ByteArray) (w : World) (hr0 : Kd.C Kd.string w A0 l0.length l0) (hc0 : l0.length ≤ c0) (h : Xn.f k l0 = some r) :
  Calls Tryz.prog 24 #[.slice A0 l0.length c0] w fun e w' => e = .returned (.string r) ∧ Below w.heap.size w w' := by
 have HR0 := Qa.mk hr0; have HC0 := Qa.mk hc0; clear hr0 hc0; have HB := Qa.mk (Below.refl w.heap.size w); have H : ((Yn.f k l0 (⟨#[]⟩ : ByteArray)).bind fun a0 => (some a0)) = some r := h; clear h; replace H := Option.bind_eq_some_iff.mp H; obtain ⟨a0, A20, H⟩ := H; replace H : (some a0) = some r := H; have A2 := Qa.mk A20; clear A20; obtain rfl := Option.some.inj H
 go_enter Tryz.func24, Tryz.ntmps24
 go_wp2_with (first | ((with_reducible refine Zx (f := 37) rfl ?_); refine Yq (some 4) rfl rfl Tryz.func37 (by kernel_rfl) rfl #[.slice A0 l0.length c0, .string (⟨#[]⟩ : ByteArray)] rfl (by (try simp only [List.map_toArray, List.map_cons, List.map_nil]); first | done | rfl | (simp only [List.length_drop, List.length_take]; rfl)) ?_; (with_reducible refine (Yn.calls k _ _ l0 (⟨#[]⟩ : ByteArray) a0 _ ?side1 ?side2 A2.out).mono ?_); (case side1 => repeat (first | exact HR0.out | (with_reducible refine Kd.C_alloc ?_ _) | (with_reducible refine Kd.C_drewN ?_ _) | (with_reducible refine Kd.C_drew ?_))); (case side2 => exact HC0.out); rintro e w3 ⟨rfl, hb⟩; refine ⟨_, rfl, ?_⟩; have n0_ := Qa.mk (Qk (by repeat (first | (with_reducible first | exact HB.out | apply Qc | apply Qb | apply Qd) | exact HB.out)) hb); clear HB; have HB := n0_; clear n0_; (try clear hb); (try clear hb2); (try clear hk); (try clear hi))); go_ret; exact ⟨by first | rfl | (simp [Qz, Za] <;> rfl) | (simp [*, Qz, Za] <;> rfl), by repeat (first | (with_reducible first | exact HB.out | apply Qc | apply Qb | apply Qd) | exact HB.out)⟩
end Go.Proofs.YtadafplbgophfaaGreatDoor.PA
end
section
namespace Go.Proofs.YtadafplbgophfaaGreatDoor.PA
open Go.RowKit Go.Proofs.YtadafplbgophfaaGreatDoorW.PrintWords Go.Proofs.YtadafplbgophfaaGreatDoorW.PrintLast Go.Proofs.YtadafplbgophfaaGreatDoorW.PrintMore
open Jdg
namespace FavT
theorem Qlo {x : ByteArray} (h : full x) : x.extract (x.size - 1) x.size = ⟨#[10]⟩ := by
 obtain ⟨h0, h1⟩ := h; obtain ⟨_, h2, _⟩ := Qib (s := x) (i := x.size - 1) (by omega); have h3 := (Qbu (s := x) (i := x.size - 1) (by omega)).1 h2; refine ByteArray.ext (Array.toList_inj.1 (List.ext_getElem? fun j => ?_))
 have hz : (x.extract (x.size - 1) x.size).data.toList.length = 1 := by rw [Array.length_toList]; show (x.extract (x.size - 1) x.size).size = 1; rw [ByteArray.size_extract]; omega
 cases j with
 | zero =>
  have e : (x.extract (x.size - 1) x.size).data.toList[0]? = x.data.toList[x.size - 1]? := by
   have hxs : x.data.toList.length = x.size := Array.length_toList; rw [List.getElem?_eq_getElem (by omega), List.getElem?_eq_getElem (by omega)]
   simp
  rw [e, h3]; rfl
 | succ j =>
  rw [List.getElem?_eq_none (by omega)]; rfl
theorem Qic {x : ByteArray} (h : full x) (hs : x.size ≤ 1000000) : Yf.f x = some true := by
 have h0 := h.1; have e1 : (⟨#[10]⟩ : ByteArray).size = 1 := rfl
 have e2 : wrap64 ((x.size : Int) - ((1 : Nat) : Int)) = ((x.size - 1 : Nat) : Int) := by rw [w64 (by omega) (by omega)]; omega
 unfold Yf.f Yr.f Yc.f; rw [e1, if_pos (by omega), e2, if_pos (by omega), if_pos (by omega), Int.toNat_natCast, Qlo h]
 simp
theorem Qlp (k : Nat) (x : ByteArray) : Xg.f k x ⟨#[10]⟩ = some (Vd x) := rfl
theorem Qmg {x : ByteArray} (h : 0 < x.size) : ¬ x.toList = ([] : List UInt8) := by
 rw [ByteArray.toList_eq]; intro e
 have : x.data.toList.length = 0 := by rw [e]; rfl
 rw [Array.length_toList] at this
 have h2 : x.data.size = x.size := rfl
 omega
theorem Qjg {l : List ByteArray} (hl : l.length ≤ 1000000) (h1 : ∀ x ∈ l, Qfd x) (h2 : ∀ x ∈ l.dropLast, full x) (h3 : ∀ x ∈ l, x.size ≤ 1000000) : Ev (fun k => Zk.f k l) true := by
 refine Ev.down (P := fun i => Ev (fun k => Zk.l0 k l l (l.length : Int) (i : Int)) true) l.length ?_ ?_
 ·refine Ev.step (f := fun _ => some true) (fun k => ?_) (Ev.now _)
  simp only [Zk.l0]; rw [if_neg (by omega)]
 ·intro i hi hE
  obtain ⟨p1, p2⟩ := h1 _ (List.getElem_mem hi); have p3 := h3 _ (List.getElem_mem hi)
  have p4 : i + 1 < l.length → full l[i] := fun h => h2 _ (by
   have hd : i < l.dropLast.length := by rw [List.length_dropLast]; omega
   have := List.getElem_mem hd
   rwa [List.getElem_dropLast] at this)
  have nx := Vu (i := i) (by omega); have er := Qkc l hi; have hw : wrap64 ((l.length : Int) - 1) = (l.length : Int) - 1 := w64 (by omega) (by omega); refine Ev.step (fun k => ?_) hE; simp only [Zk.l0]; rw [if_pos (by omega), if_pos (by omega), if_pos (by omega), er, Qlp, Option.bind_some, nx, hw, if_neg (Qmg p1), w64 (by omega) (by omega)]
  generalize l[i] = x at *
  by_cases c : Vd x ≥ 0
  ·rw [if_pos c, if_pos (by omega), if_neg (by omega)]
  ·rw [if_neg c, if_pos (by omega), if_neg]
   intro hlt; have := (p4 (by omega)).2
   omega
theorem Qon (l : List ByteArray) (s : ByteArray) (h : (l.map (·.data.toList)).flatten = s.data.toList) (hl : l.length ≤ 1000000) (hs : s.size ≤ 1000000) (k : Nat) : Xn.f k l = some s := by
 have e : ∀ l : List (List UInt8), Lib.join l ([] : List UInt8) = l.flatten := by
  intro l
  induction l with
  | nil => rfl
  | cons x l ih =>
   cases l with
   | nil => simp [Lib.join]
   | cons y l =>
    unfold Lib.join List.intercalate at ih ⊢
    rw [List.intersperse_cons_cons, List.flatten_cons, List.flatten_cons, ih]; rfl
 have ej : Qha l ⟨#[]⟩ = s.data.toList := by
  unfold Qha; rw [← h]; exact e _
 have hsz : s.data.toList.length = s.size := Array.length_toList; unfold Xn.f Yn.f; rw [ej, if_pos ⟨by omega, by omega⟩]
 simp
end FavT
end Go.Proofs.YtadafplbgophfaaGreatDoor.PA
end
section
namespace Go.Proofs.YtadafplbgophfaaGreatDoor.PA
open Go.RowKit Go.Proofs.YtadafplbgophfaaGreatDoorW.PrintWords Go.Proofs.YtadafplbgophfaaGreatDoorW.PrintLast Go.Proofs.YtadafplbgophfaaGreatDoorW.PrintMore
def Qax (s : S68) : Prop := s.f0 = 0 → Yf.f s.f1 = some true
theorem Qhj.calls (s : S68) (w : World) (h : Qax s) : Calls Tryz.prog 47 #[.agg #[.int .i64 s.f0, .string s.f1]] w fun e w' => e = .returned (.bool false) ∧ Below w.heap.size w w' := by
 have hu68 := Tryz.underlying68; have H := Qa.mk h; clear h
 by_cases h0 : s.f0 = 0
 ·have HE := Qa.mk (H.out h0)
  have hb : decide (s.f0 = 0) = true := decide_eq_true h0; have hb1 : (s.f0 == 0) = true := beq_iff_eq.mpr h0; clear h0
  go_enter Tryz.func47, Tryz.ntmps47
  go_wp2_with ((with_reducible refine Zs (N := 1) rfl ?_); refine Xd ?hg (N := 1) ?hd (cs := #[.int .i64 s.f0, .string s.f1]) (t := 68) ?hr ?_; (case hd => rfl); (case hg => rfl); (case hr => first | (go_simp; done) | (go_simp; rfl)); intro f1 hg w1 hbox hb; have HB := Qa.mk hb; have z0 := (Ql hbox 0).trans (show _ = some (Value.int .i64 s.f0) from rfl); have z1 := (Ql hbox 1).trans (show _ = some (Value.string s.f1) from rfl); clear hg hbox hb); refine (Yf.calls s.f1 true _ HE.out).mono ?_; rintro e w2 ⟨rfl, hD⟩; have hb := Xs.below hD; replace HB := Qa.mk (Qk HB.out hb); clear hD hb z0 z1; go_wp2_with fail; go_ret; exact ⟨by first | rfl | simp, HB.out⟩
 ·have hb : decide (s.f0 = 0) = false := decide_eq_false h0
  have hb1 : (s.f0 == 0) = false := beq_eq_false_iff_ne.mpr h0; clear h0
  go_enter Tryz.func47, Tryz.ntmps47
  go_wp2_with ((with_reducible refine Zs (N := 1) rfl ?_); refine Xd ?hg (N := 1) ?hd (cs := #[.int .i64 s.f0, .string s.f1]) (t := 68) ?hr ?_; (case hd => rfl); (case hg => rfl); (case hr => first | (go_simp; done) | (go_simp; rfl)); intro f1 hg w1 hbox hb; have HB := Qa.mk hb; have z0 := (Ql hbox 0).trans (show _ = some (Value.int .i64 s.f0) from rfl); have z1 := (Ql hbox 1).trans (show _ = some (Value.string s.f1) from rfl); clear hg hbox hb); go_ret; exact ⟨by first | rfl | simp, by repeat (first | (with_reducible first | exact HB.out | apply Qb | apply Qd))⟩
theorem Qmc {l : List S68} {i : Nat} (h : i < l.length) : Zd l (i : Int) = l[i] := by simp [Zd, List.getD_eq_getElem?_getD, h]
set_option maxHeartbeats 8000000 in
set_option maxRecDepth 100000 in
theorem Qbb.calls (A0 : Option Addr) (c0 : Nat) (l0 : List S68) (w : World) (hr0 : Kd.C k68 w A0 l0.length l0) (hc0 : l0.length ≤ c0) (hok : ∀ s ∈ l0, Qax s) :
  Calls Tryz.prog 60 #[.slice A0 l0.length c0, .func (.func 47) #[] #[]] w fun e w' => e = .returned (.int .i64 (-1)) ∧ Below w.heap.size w w' := by
 have hu68 := Tryz.underlying68; have HR := Qa.mk hr0; have HN : Qa (l0.length ≤ 9223372036854775807) := ⟨hr0.2.1⟩; have HO := Qa.mk hok; clear hr0 hok
 go_enter Tryz.func60, Tryz.ntmps60
 go_wp2_with fail
 go_loopg [8] l0.length (fun kq v8 W => ∃ i : Nat, v8 = .int .i64 (i : Int) ∧ Qa (i + kq = l0.length) ∧ Qa (Below w.heap.size w W))
 case atStart => exact ⟨0, rfl, ⟨Nat.zero_add _⟩, ⟨Below.refl _ _⟩⟩
 case round =>
  obtain ⟨i, rfl, HI, HB⟩ := hrel
  cases gk with
  | zero =>
   have hil : ¬ i < l0.length := by have := HI.out; omega
   have lt1 : decide ((i : Int) < (l0.length : Int)) = false := decide_eq_false (by omega); have lt1n : decide (i < l0.length) = false := decide_eq_false hil; go_wp2_with fail; go_ret; exact ⟨rfl, HB.out⟩
  | succ k1 =>
   have hil : i < l0.length := by have := HI.out; omega
   have LT0 : Qa ((i : Int) < (l0.length : Int)) := ⟨by omega⟩; have lt0 : decide ((i : Int) < (l0.length : Int)) = true := decide_eq_true LT0.out; have lt0n : decide (i < l0.length) = true := decide_eq_true hil; obtain ⟨ad, ea, hx0, hx1⟩ := Qah HR.out (i : Int) (by omega) LT0.out
   cases ea
   rw [Qmc hil, Int.toNat_natCast] at hx0 hx1
   replace hx0 := Zh HB.out hx0; replace hx1 := Zh HB.out hx1; have HS := Qa.mk (HO.out _ (List.getElem_mem hil))
   generalize l0[i] = s at hx0 hx1 HS
   have HWI : Qa (wrap64 ((i : Int) + 1) = ((i + 1 : Nat) : Int)) := ⟨by have := HN.out; unfold wrap64; omega⟩; have p0t : ((0 : Int) ≤ (i : Int)) = True := eq_true (by omega); have lt0p := eq_true LT0.out; have lt0q : (i < l0.length) = True := eq_true hil; go_wp2_with (go_at_call 47; refine (Qhj.calls s _ HS.out).mono ?_; rintro e W2 ⟨rfl, hb⟩; replace HB := Qa.mk (Qk HB.out hb); clear hb hx0 hx1)
   go_roundg k1
   case measure => omega
   case rel => exact ⟨i + 1, by rw [HWI.out], ⟨by have := HI.out; omega⟩, HB⟩
theorem Qab.calls (A0 : Option Addr) (c0 : Nat) (l0 : List S68) (w : World) (hr0 : Kd.C k68 w A0 l0.length l0) (hc0 : l0.length ≤ c0) (hok : ∀ s ∈ l0, Qax s) :
  Calls Tryz.prog 46 #[.slice A0 l0.length c0, .func (.func 47) #[] #[]] w fun e w' => e = .returned (.bool false) ∧ Below w.heap.size w w' := by
 have HR := Qa.mk hr0; have HC := Qa.mk hc0; have HO := Qa.mk hok; clear hr0 hc0 hok
 go_enter Tryz.func46, Tryz.ntmps46
 go_wp2_with fail; refine (Qbb.calls A0 c0 l0 _ HR.out HC.out HO.out).mono ?_; rintro e w1 ⟨rfl, hb⟩; have HB := Qa.mk hb; clear hb; go_wp2_with fail; go_ret; exact ⟨rfl, HB.out⟩
structure Kt (k : Nat) (l : List S49) (kind : Int) (last : Bool) (s : List ByteArray) : Prop where
 hs : Zo.f k l kind = some s
 hw : Zk.f k s = some true
 he : last = false → 0 < s.length → Yf.f (Zy ByteArray.empty s ((s.length : Int) - 1)) = some true
set_option maxHeartbeats 8000000 in
set_option maxRecDepth 100000 in
theorem Qcz.calls (k : Nat) (a b : Int) (A : Option Addr) (c : Nat) (l : List S49) (last : Bool) (s1 s2 : List ByteArray) (m : List S68) (w : World) (hr : Kd.C k49 w A l.length l) (hc : l.length ≤ c)
  (h1 : Kt k l 1 last s1) (h2 : Kt k l 2 last s2) (hm : Ze.f k l = some m) (hml : m.length ≤ 1000000000) (hok : ∀ x ∈ m.take (m.length - 1), Qax x) :
  Calls Tryz.prog 33 #[.agg #[.int .i64 a, .int .i64 b, .slice A l.length c], .bool last] w fun e w' => e = .returned (.bool true) ∧ Below w.heap.size w w' := by
 have hu45 := Tryz.underlying45; have HR := Qa.mk hr; have HC := Qa.mk hc; have F1 := Qa.mk h1; have F2 := Qa.mk h2; have FM := Qa.mk hm; have FO := Qa.mk hok; have FL := Qa.mk hml; clear hr hc h1 h2 hm hok hml
 go_enter Tryz.func33, Tryz.ntmps33
 go_wp2_with (first | ((with_reducible refine Zs (N := 2) rfl ?_); refine Xd ?hg (N := 2) ?hd (cs := #[.int .i64 a, .int .i64 b, .slice A l.length c]) (t := 45) ?hr ?_; (case hd => rfl); (case hg => rfl); (case hr => first | (go_simp; done) | (go_simp; rfl)); intro f2 hg w1 hbox hb; have BK := Qa.mk hbox; have HB := Qa.mk hb; clear hg hbox hb) | ((with_reducible refine Zs (N := 9) rfl ?_); refine Kd.R_lit (Kd.int .i64) _ 3 ?hg (N := 9) ?hd (xs := ([1, 2] : List Int)) (inner := [.int .i64 1, .int .i64 2]) (ok := fun _ => True) (okp := fun _ => True) ?hr ?hp (fun _ hk => hk) trivial (Below.refl _ _) (Nat.le_refl _) (by simp) ?_; (case hd => rfl); (case hg => rfl); (case hr => first | (go_simp; done) | (go_simp; rfl)); (case hp => exact (Zz.one (show Kd.M (Kd.int .i64) _ _ _ 1 [.int .i64 1] from rfl) (Zz.one (show Kd.M (Kd.int .i64) _ _ _ 2 [.int .i64 2] from rfl) (Zz.none _ _)))); intro v9 w2 ho hb hg_ hnew_; obtain ⟨P, y_, rfl, hl_, hC_⟩ := Kd.R_reads ho; have HP := Qa.mk hC_; replace BK := Qa.mk (Xt BK.out hb); replace HB := Qa.mk (Qk HB.out hb); clear hg_ hnew_ ho hb hl_ hC_))
 go_loopg [11] 2 (fun kq v11 W => ∃ i : Nat, v11 = .int .i64 (i : Int) ∧ Qa (i + kq = 2) ∧ Qa (Below w2.heap.size w2 W))
 case atStart => exact ⟨0, rfl, ⟨rfl⟩, ⟨by repeat (first | (with_reducible first | exact Below.refl _ _ | apply Qb | apply Qd))⟩⟩
 case round =>
  obtain ⟨i, rfl, HI, HW⟩ := hrel; have KR := Qa.mk (Kd.C_below HR.out (Qk HB.out HW.out)); have KK := Qa.mk (Xt BK.out HW.out); have KP := Qa.mk (Kd.C_below HP.out HW.out); have KB := Qa.mk (Qk HB.out HW.out); have z2 := (Ql KK.out 2).trans (show _ = some (Value.slice A l.length c) from rfl)
  cases gk with
  | zero =>
   have hil : i = 2 := by have := HI.out; omega
   subst hil; go_wp2_with fail; refine (Ze.calls k A c l m _ KR.out HC.out FM.out).mono ?_; rintro e w4 ⟨v0, rfl, hRm, hb⟩; obtain ⟨M, mc, rfl, hcM, hCM⟩ := Kd.R_reads hRm; have HM := Qa.mk hCM; have LM := Qa.mk hcM; replace KB := Qa.mk (Qk KB.out hb); clear hRm hb hcM hCM KR KK KP HW z2; obtain ⟨iz, hinfo, _, hsz, _⟩ := info_parts Qex; obtain ⟨j, hj⟩ : ∃ j : Int, max ((m.length : Int) - 1) 0 = j := ⟨_, rfl⟩; have hml := FL.out
   have ej : j = ((m.length - 1 : Nat) : Int) := by
    omega
   obtain ⟨hcut, hC2, hL2⟩ := Qqq k68 36 68 Tryz.underlying36 hinfo hsz M mc m j (by omega) (by omega) LM.out; have HC2 := Qa.mk hC2; have HL2 := Qa.mk hL2
   have hej : m.take j.toNat = m.take (m.length - 1) := by rw [ej, Int.toNat_natCast]
   generalize m.take j.toNat = t4 at hcut HC2 HL2 hC2 hL2 hej
   have HEJ := Qa.mk hej
   have hwj : wrap64 ((m.length : Int) - 1) = (m.length : Int) - 1 := by unfold wrap64; omega
   clear hml ej hC2 hL2 hej; go_wp2_with fail; refine (Qab.calls M mc t4 _ (HC2.out _ HM.out) HL2.out (fun x hx => FO.out x (by rw [← HEJ.out]; exact hx))).mono ?_; rintro e w5 ⟨rfl, hb⟩; replace KB := Qa.mk (Qk KB.out hb); clear hb; go_wp2_with fail; go_ret; exact ⟨by first | rfl | simp, KB.out⟩
  | succ k1 =>
   have hi2 : i < 2 := by have := HI.out; omega
   obtain ⟨ad, ea, hx⟩ := Kd.at_int KP.out (i : Int) (by omega) (by simp; omega)
   cases ea
   obtain ⟨kd, hkd, sd, FS0⟩ : ∃ kd, rd [1, 2] (i : Int) = kd ∧ ∃ sd, Kt k l kd last sd := by
    rcases (show i = 0 ∨ i = 1 by omega) with rfl | rfl
    ·exact ⟨1, rfl, s1, F1.out⟩
    ·exact ⟨2, rfl, s2, F2.out⟩
   have FS := Qa.mk FS0
   rw [hkd, Int.toNat_natCast] at hx
   have lt0 : decide ((i : Int) < 2) = true := decide_eq_true (by omega); have lt0n : decide (i < 2) = true := decide_eq_true hi2; have p0t : ((0 : Int) ≤ (i : Int)) = True := eq_true (by omega); have lt0p : ((i : Int) < 2) = True := eq_true (by omega); have lt0q : (i < 2) = True := eq_true hi2; have HWI : Qa (wrap64 ((i : Int) + 1) = ((i + 1 : Nat) : Int)) := ⟨by unfold wrap64; omega⟩; clear hkd FS0 hi2; go_wp2_with fail; refine (Zo.calls k A c l kd sd _ KR.out HC.out FS.out.hs).mono ?_; rintro e w4 ⟨v0, rfl, hRs, hb⟩; obtain ⟨S, sc, rfl, hcS, hCS⟩ := Kd.R_reads hRs; have HS := Qa.mk hCS; have LS := Qa.mk hcS; replace HW := Qa.mk (Qk HW.out hb); clear hRs hb hcS hCS KR KK KP KB z2 hx; go_wp2_with fail; refine (Zk.calls k S sc sd true _ HS.out LS.out FS.out.hw).mono ?_; rintro e w5 ⟨rfl, hb⟩; replace HW := Qa.mk (Qk HW.out hb); replace HS := Qa.mk (Kd.C_below HS.out hb); clear hb
   cases last with
   | true =>
    go_wp2_with fail
    go_roundg k1
    case measure => omega
    case rel => exact ⟨i + 1, by rw [HWI.out], ⟨by have := HI.out; omega⟩, HW⟩
   | false =>
    by_cases hp : 0 < sd.length
    ·have gt0 : decide ((sd.length : Int) > 0) = true := decide_eq_true (by omega)
     have gt1 : decide (0 < sd.length) = true := decide_eq_true hp; have gt2 : (0 < sd.length) = True := eq_true hp; have HN : Qa (sd.length ≤ 9223372036854775807) := ⟨HS.out.2.1⟩; obtain ⟨adS, eS, hxs⟩ := Kd.at_string HS.out ((sd.length : Int) - 1) (by omega) (by omega)
     cases eS; obtain ⟨j, hj⟩ : ∃ j : Int, (sd.length : Int) - 1 = j := ⟨_, rfl⟩; have HE := Qa.mk (FS.out.he rfl hp)
     have hwj : wrap64 ((sd.length : Int) - 1) = j := by rw [← hj]; unfold wrap64; have := HN.out; omega
     have hj0 : ((0 : Int) ≤ j) = True := eq_true (by omega); have hj1 : (j < (sd.length : Int)) = True := eq_true (by omega)
     rw [hj] at hxs HE
     generalize Zy ByteArray.empty sd j = tx at hxs HE
     have HP0 := Qa.mk hp; clear hp hj; go_wp2_with fail; refine (Yf.calls tx true _ HE.out).mono ?_; rintro e w6 ⟨rfl, hD⟩; have hb := Xs.below hD; replace HW := Qa.mk (Qk HW.out hb); clear hD hb hxs; go_wp2_with fail
     go_roundg k1
     case measure => omega
     case rel => exact ⟨i + 1, by rw [HWI.out], ⟨by have := HI.out; omega⟩, HW⟩
    ·have gt0 : decide ((sd.length : Int) > 0) = false := decide_eq_false (by omega)
     have gt1 : decide (0 < sd.length) = false := decide_eq_false hp; have HP0 := Qa.mk hp; clear hp; go_wp2_with fail
     go_roundg k1
     case measure => omega
     case rel => exact ⟨i + 1, by rw [HWI.out], ⟨by have := HI.out; omega⟩, HW⟩
structure Qeh (k : Nat) (h : S45) (lst : Bool) (at_ more from_ to_ : Int) : Prop where
 er : Zr.f k h.f2 = some true
 ch : Yz.f k h.f2 = some true
 s1 : ∃ s, Kt k h.f2 1 lst s
 s2 : ∃ s, Kt k h.f2 2 lst s
 mrk : ∃ m, Ze.f k h.f2 = some m ∧ m.length ≤ 1000000000 ∧ ∀ x ∈ m.take (m.length - 1), Qax x
 ge : at_ ≤ h.f0
 le : h.f0 ≤ 999999
 bb : h.f1 = wrap64 (h.f0 + more)
 sd : Xi.f k h.f2 = some (from_, to_)
def Kr (k : Nat) : List S45 → Int → Int → Prop
 | [], _, _ => True
 | h :: r, at_, more => ∃ from_ to_, Qeh k h r.isEmpty at_ more from_ to_ ∧ Kr k r (wrap64 (h.f0 + from_)) (wrap64 (wrap64 (more + to_) - from_))
theorem Jz {l : List S45} {i : Nat} (h : i < l.length) : Qq l (i : Int) = l[i] := by simp [Qq, List.getD_eq_getElem?_getD, h]
theorem Qid {w : World} {s : Nat} {z0 z1 z2 : Value} (h : w.heap[s]? = some (.cells #[z0, z1, z2] 45 (0, 0))) (v0 v1 v2 : Value) :
  (((w.setCell ⟨s, 0, none⟩ v0).setCell ⟨s, 1, none⟩ v1).setCell ⟨s, 2, none⟩ v2).heap[s]? = some (.cells #[v0, v1, v2] 45 (0, 0)) := by
 have h0 : (w.setCell ⟨s, 0, none⟩ v0).heap[s]? = some (.cells #[v0, z1, z2] 45 (0, 0)) := Zu h 0 v0 rfl; have h1 : ((w.setCell ⟨s, 0, none⟩ v0).setCell ⟨s, 1, none⟩ v1).heap[s]? = some (.cells #[v0, v1, z2] 45 (0, 0)) := Zu h0 1 v1 rfl; exact Zu h1 2 v2 rfl
theorem Qko {w0 w : World} {s : Nat} (h : Below w0.heap.size w0 w) (hs : w0.heap.size ≤ s) (v0 v1 v2 : Value) : Below w0.heap.size w0 (((w.setCell ⟨s, 0, none⟩ v0).setCell ⟨s, 1, none⟩ v1).setCell ⟨s, 2, none⟩ v2) := Qu (Qu (Qu h hs) hs) hs
set_option maxHeartbeats 8000000 in
set_option maxRecDepth 100000 in
theorem Xh.calls0 (k : Nat) (A0 : Option Addr) (c0 : Nat) (l0 : List S45) (w : World) (hr0 : Kd.C k45 w A0 l0.length l0) (hc0 : l0.length ≤ c0) (hok : Kr k l0 0 0) :
  Calls Tryz.prog 19 #[.slice A0 l0.length c0] w fun e w' => e = .returned (.bool true) ∧ Below w.heap.size w w' := by
 have hu45 := Tryz.underlying45; have HR := Qa.mk hr0; have HN : Qa (l0.length ≤ 9223372036854775807) := ⟨hr0.2.1⟩; have HO := Qa.mk hok; clear hr0 hok
 go_enter Tryz.func19, Tryz.ntmps19
 go_wp2_with fail
 go_loopg [3, 4, 11] l0.length (fun kq v3 v4 v11 W => ∃ (i : Nat) (at_ more : Int), v3 = .int .i64 at_ ∧ v4 = .int .i64 more ∧ v11 = .int .i64 (i : Int) ∧ Qa (i + kq = l0.length) ∧ Qa (Below w.heap.size w W) ∧ Qa (Kr k (l0.drop i) at_ more))
 case atStart => exact ⟨0, 0, 0, rfl, rfl, rfl, ⟨Nat.zero_add _⟩, ⟨Below.refl _ _⟩, HO⟩
 case round =>
  obtain ⟨i, at_, more, rfl, rfl, rfl, HI, HB, HG⟩ := hrel
  cases gk with
  | zero =>
   have hil : ¬ i < l0.length := by have := HI.out; omega
   have lt1 : decide ((i : Int) < (l0.length : Int)) = false := decide_eq_false (by omega); have lt1n : decide (i < l0.length) = false := decide_eq_false hil; go_wp2_with fail; go_ret; exact ⟨rfl, HB.out⟩
  | succ k1 =>
   have hil : i < l0.length := by have := HI.out; omega
   have LT0 : Qa ((i : Int) < (l0.length : Int)) := ⟨by omega⟩; have lt0 : decide ((i : Int) < (l0.length : Int)) = true := decide_eq_true LT0.out; have lt0n : decide (i < l0.length) = true := decide_eq_true hil; obtain ⟨ad, A2, c2, ea, hx0, hx1, hx2, hl2, hC2⟩ := Qen HR.out (i : Int) (by omega) LT0.out
   cases ea
   rw [Jz hil, Int.toNat_natCast] at hx0 hx1 hx2
   rw [Jz hil] at hl2 hC2
   replace hx0 := Zh HB.out hx0; replace hx1 := Zh HB.out hx1; replace hx2 := Zh HB.out hx2; have hg := HG.out
   rw [List.drop_eq_getElem_cons hil] at hg
   obtain ⟨from_, to_, hh, hg2⟩ := hg
   have hemp : (l0.drop (i + 1)).isEmpty = decide ((i : Int) = (l0.length : Int) - 1) := by
    by_cases h : l0.length ≤ i + 1
    ·rw [List.drop_of_length_le h, decide_eq_true (by omega)]; rfl
    ·rw [decide_eq_false (by omega), List.drop_eq_getElem_cons (by omega)]; rfl
   rw [hemp] at hh
   generalize l0[i] = h at hx0 hx1 hx2 hl2 hC2 hh hg2
   have HH := Qa.mk hh; have HG2 := Qa.mk hg2; have L2 := Qa.mk hl2; have C2 := Qa.mk hC2; have HWI : Qa (wrap64 ((i : Int) + 1) = ((i + 1 : Nat) : Int)) := ⟨by have := HN.out; unfold wrap64; omega⟩; have p0t : ((0 : Int) ≤ (i : Int)) = True := eq_true (by omega); have lt0p := eq_true LT0.out; have lt0q : (i < l0.length) = True := eq_true hil; clear hh hg2 hl2 hC2 hemp HG
   go_upto_region 5 with ((with_reducible refine Zs (N := 6) rfl ?_); refine Xd ?hg (N := 6) ?hd (cs := #[.int .i64 0, .int .i64 0, .slice none 0 0]) (t := 45) ?hr ?_; (case hd => rfl); (case hg => rfl); (case hr => first | (go_simp; done) | (go_simp; rfl)); intro f6 hg w6 hbox hb; have BK := Qa.mk hbox; have HB6 := Qa.mk hb; have GE := Qa.mk (Nat.le_of_eq hg.symm); obtain ⟨y0, y1, y2⟩ := And.intro ((Ql hbox 0).trans (show _ = some (Value.int .i64 0) from rfl)) (And.intro ((Ql hbox 1).trans (show _ = some (Value.int .i64 0) from rfl)) ((Ql hbox 2).trans (show _ = some (Value.slice none 0 0) from rfl))); have x0 := Qo hbox 0; have x1 := Qo hbox 1; have x2 := Qo hbox 2; clear hg hbox hb)
   have BK1 := Qa.mk (Qid BK.out (.int .i64 h.f0) (.int .i64 h.f1) (.slice A2 h.f2.length c2)); have BW := Qa.mk (Qko (Qk HB.out HB6.out) (Nat.le_trans (Qh HB.out) GE.out) (.int .i64 h.f0) (.int .i64 h.f1) (.slice A2 h.f2.length c2)); clear BK HB6 GE y0 y1 y2 x0 x1 x2 hx0 hx1 hx2
   generalize ((w6.setCell ⟨f6, 0, none⟩ (.int .i64 h.f0)).setCell ⟨f6, 1, none⟩ (.int .i64 h.f1)).setCell ⟨f6, 2, none⟩ (.slice A2 h.f2.length c2) = wA at BK1 BW ⊢
   clear HB; have z2 := (Ql BK1.out 2).trans (show _ = some (Value.slice A2 h.f2.length c2) from rfl)
   have HWL : wrap64 ((l0.length : Int) - 1) = (l0.length : Int) - 1 := by have := HN.out; have := LT0.out; unfold wrap64; omega
   go_wp2_with fail; refine (Zr.calls k A2 c2 h.f2 true _ (Kd.C_below C2.out BW.out) L2.out HH.out.er).mono ?_; rintro e w7 ⟨rfl, hb⟩; replace BK1 := Qa.mk (Xt BK1.out hb); replace BW := Qa.mk (Qk BW.out hb); clear hb z2; have z2 := (Ql BK1.out 2).trans (show _ = some (Value.slice A2 h.f2.length c2) from rfl); go_wp2_with fail; refine (Yz.calls k A2 c2 h.f2 true _ (Kd.C_below C2.out BW.out) L2.out HH.out.ch).mono ?_; rintro e w8 ⟨rfl, hb⟩; replace BK1 := Qa.mk (Xt BK1.out hb); replace BW := Qa.mk (Qk BW.out hb); clear hb z2; have z0 := (Ql BK1.out 0).trans (show _ = some (Value.int .i64 h.f0) from rfl); have z1 := (Ql BK1.out 1).trans (show _ = some (Value.int .i64 h.f1) from rfl); have z2 := (Ql BK1.out 2).trans (show _ = some (Value.slice A2 h.f2.length c2) from rfl); go_wp2_with fail; obtain ⟨s1, hs1⟩ := HH.out.s1; obtain ⟨s2, hs2⟩ := HH.out.s2; obtain ⟨m, hm, hml, hmk⟩ := HH.out.mrk; refine (Qcz.calls k h.f0 h.f1 A2 c2 h.f2 (decide ((i : Int) = (l0.length : Int) - 1)) s1 s2 m _ (Kd.C_below C2.out BW.out) L2.out hs1 hs2 hm hml hmk).mono ?_; rintro e w9 ⟨rfl, hb⟩; replace BK1 := Qa.mk (Xt BK1.out hb); replace BW := Qa.mk (Qk BW.out hb); clear hb z2 z1 z0 hs1 hs2 hm hml hmk; have z0 := (Ql BK1.out 0).trans (show _ = some (Value.int .i64 h.f0) from rfl); have z1 := (Ql BK1.out 1).trans (show _ = some (Value.int .i64 h.f1) from rfl); have z2 := (Ql BK1.out 2).trans (show _ = some (Value.slice A2 h.f2.length c2) from rfl); have g1 : decide (h.f0 < at_) = false := decide_eq_false (Int.not_lt.mpr HH.out.ge); have g2 : decide (999999 < h.f0) = false := decide_eq_false (Int.not_lt.mpr HH.out.le); have g3 : decide (h.f1 = wrap64 (h.f0 + more)) = true := decide_eq_true HH.out.bb
   have g3b : (h.f1 != wrap64 (h.f0 + more)) = false := by rw [← HH.out.bb]; simp
   have g3c : (h.f1 == wrap64 (h.f0 + more)) = true := by rw [← HH.out.bb]; simp
   go_wp2_with fail; refine (Xi.calls k A2 c2 h.f2 from_ to_ _ (Kd.C_below C2.out BW.out) L2.out HH.out.sd).mono ?_; rintro e w10 ⟨rfl, hb⟩; replace BK1 := Qa.mk (Xt BK1.out hb); replace BW := Qa.mk (Qk BW.out hb); clear hb z2 z1 z0; have z0 := (Ql BK1.out 0).trans (show _ = some (Value.int .i64 h.f0) from rfl); go_wp2_with fail
   go_roundg k1
   case measure => omega
   case rel => exact ⟨i + 1, wrap64 (h.f0 + from_), wrap64 (wrap64 (more + to_) - from_), rfl, rfl, by rw [HWI.out], ⟨by have := HI.out; omega⟩, BW, HG2⟩
theorem Kt.up {k : Nat} {l : List S49} {kind : Int} {last : Bool} {s : List ByteArray} (h : Kt k l kind last s) : Kt (k + 1) l kind last s :=
 ⟨Zo.mono _ _ _ _ h.hs, Zk.mono _ _ _ h.hw, h.he⟩
theorem Qax.up {s : S68} (h : Qax s) : Qax s := h
theorem Qeh.up {k : Nat} {h : S45} {lst : Bool} {at_ more from_ to_ : Int} (o : Qeh k h lst at_ more from_ to_) : Qeh (k + 1) h lst at_ more from_ to_ :=
 ⟨Zr.mono _ _ _ o.er, Yz.mono _ _ _ o.ch, o.s1.imp fun _ s => s.up, o.s2.imp fun _ s => s.up, o.mrk.imp fun _ m => ⟨Ze.mono _ _ _ m.1, m.2⟩, o.ge, o.le, o.bb, Xi.mono _ _ _ o.sd⟩
theorem Kr.up {k : Nat} : ∀ {l : List S45} {at_ more : Int}, Kr k l at_ more → Kr (k + 1) l at_ more
 | [], _, _, _ => trivial
 | _ :: _, _, _, ⟨f, t, h, g⟩ => ⟨f, t, h.up, Kr.up g⟩
open Classical in
noncomputable def Xh.f (k : Nat) (l0 : List S45) : Option Bool := if Kr k l0 0 0 then some true else none
theorem Xh.calls (k : Nat) (A0 : Option Addr) (c0 : Nat) (l0 : List S45) (r : Bool) (w : World) (hr0 : Kd.C k45 w A0 l0.length l0) (hc0 : l0.length ≤ c0) (h : Xh.f k l0 = some r) :
  Calls Tryz.prog 19 #[.slice A0 l0.length c0] w fun e w' => e = .returned (.bool r) ∧ Below w.heap.size w w' := by
 unfold Xh.f at h
 split at h
 ·rename_i hg
  obtain rfl := Option.some.inj h; exact Xh.calls0 k A0 c0 l0 w hr0 hc0 hg
 ·cases h
end Go.Proofs.YtadafplbgophfaaGreatDoor.PA
end
section
namespace Go.Proofs.YtadafplbgophfaaGreatDoor.PA
open Go.RowKit Go.Proofs.YtadafplbgophfaaGreatDoorW.PrintWords Go.Proofs.YtadafplbgophfaaGreatDoorW.PrintLast Go.Proofs.YtadafplbgophfaaGreatDoorW.PrintMore
attribute [local go_sem] Xv Xx Yl Ym Xo Xp Xw Xy
def Zl.l0 : Nat → List (S45) → List ByteArray → List ByteArray → Int → List (S45) → Int → Int → Option (ByteArray × Int × Int)
 | 0, _, _, _, _, _, _, _ => none
 | k + 1, x0, x7, x8, x9, x19, x20, x21 => if x21 < x20 then (if 0 ≤ x21 then (if x21 < (x19.length : Int) then ((Zo.f k ((Qq x19 x21).f2) 1).bind fun a6 => (if (wrap64 (((Qq x19 x21).f0) + (a6.length : Int))) > (x7.length : Int) then (some ((⟨#[]⟩ : ByteArray), 12, x21)) else (if 0 ≤ ((Qq x19 x21).f0) then (if ((Qq x19 x21).f0) ≤ (wrap64 (((Qq x19 x21).f0) + (a6.length : Int))) then (if (wrap64 (((Qq x19 x21).f0) + (a6.length : Int))) ≤ (x7.length : Int) then ((Qm.f k ((x7.take ((wrap64 (((Qq x19 x21).f0) + (a6.length : Int))) : Int).toNat).drop (((Qq x19 x21).f0) : Int).toNat) a6).bind fun e6 => (if e6 = true then (if 0 ≤ x9 then (if x9 ≤ ((Qq x19 x21).f0) then (if ((Qq x19 x21).f0) ≤ (x7.length : Int) then ((some ((x7.take (((Qq x19 x21).f0) : Int).toNat).drop (x9 : Int).toNat : List ByteArray)).bind fun b1 => (if x8.length + b1.length < 8796093022208 then ((some (x8 ++ b1 : List ByteArray)).bind fun b5 => ((Zo.f k ((Qq x19 x21).f2) 2).bind fun b0 => (if b5.length + b0.length < 8796093022208 then (Zl.l0 k x0 x7 (b5 ++ b0) (wrap64 (((Qq x19 x21).f0) + (a6.length : Int))) x19 x20 (wrap64 (x21 + 1))) else (none)))) else (none))) else (none)) else (none)) else (none)) else (some ((⟨#[]⟩ : ByteArray), 12, x21)))) else (none)) else (none)) else (none)))) else (none)) else (none)) else (if 0 ≤ x9 then (if x9 ≤ (x7.length : Int) then ((some (x7.drop (x9 : Int).toNat : List ByteArray)).bind fun b6 => (if x8.length + b6.length < 8796093022208 then ((some (x8 ++ b6 : List ByteArray)).bind fun d5 => ((Zk.f k d5).bind fun e7 => (if e7 = true then ((Xn.f k d5).bind fun e0 => (some (e0, 0, (-1)))) else (some ((⟨#[]⟩ : ByteArray), 12, wrap64 ((x0.length : Int) - 1)))))) else (none))) else (none)) else (none))
noncomputable def Zl.f (k : Nat) (l0 : List (S45)) (a1 : ByteArray) : Option (ByteArray × Int × Int) := (Xh.f k l0).bind fun g4 => (if g4 = true then ((Xl.f k a1).bind fun a4 => (Zl.l0 k l0 a4 ([] : List ByteArray) 0 l0 (l0.length : Int) 0)) else (some ((⟨#[]⟩ : ByteArray), 11, (-1))))
set_option maxHeartbeats 8000000 in
set_option maxRecDepth 100000 in
theorem Zl.calls (k : Nat) (A0 : Option Addr) (c0 : Nat) (l0 : List (S45)) (a1 : ByteArray) (r1 : ByteArray) (r2 : Int) (r3 : Int) (w : World) (hr0 : Kd.C k45 w A0 l0.length l0) (hc0 : l0.length ≤ c0) (h : Zl.f k l0 a1 = some (r1, r2, r3)) :
  Calls Tryz.prog 9 #[.slice A0 l0.length c0, .string a1] w fun e w' => e = .returned (.tuple #[.string r1, .int .i64 r2, .int .i64 r3]) ∧ Below w.heap.size w w' := by
 have hu45 := Tryz.underlying45; have HR0 := Qa.mk hr0; have HC0 := Qa.mk hc0; clear hr0 hc0; have HB := Qa.mk (Below.refl w.heap.size w); have H : ((Xh.f k l0).bind fun g4 => (if g4 = true then ((Xl.f k a1).bind fun a4 => (Zl.l0 k l0 a4 ([] : List ByteArray) 0 l0 (l0.length : Int) 0)) else (some ((⟨#[]⟩ : ByteArray), 11, (-1))))) = some (r1, r2, r3) := h; clear h; replace H := Option.bind_eq_some_iff.mp H; obtain ⟨g4, A30, H⟩ := H; replace H : (if g4 = true then ((Xl.f k a1).bind fun a4 => (Zl.l0 k l0 a4 ([] : List ByteArray) 0 l0 (l0.length : Int) 0)) else (some ((⟨#[]⟩ : ByteArray), 11, (-1)))) = some (r1, r2, r3) := H; have A3 := Qa.mk A30; clear A30
 by_cases c4 : g4 = true
 ·subst c4
  have H1 : ((Xl.f k a1).bind fun a4 => (Zl.l0 k l0 a4 ([] : List ByteArray) 0 l0 (l0.length : Int) 0)) = some (r1, r2, r3) := by rw [if_pos rfl] at H; exact H
  clear H; have H := H1; clear H1; replace H := Option.bind_eq_some_iff.mp H; obtain ⟨a4, A50, H⟩ := H; replace H : (Zl.l0 k l0 a4 ([] : List ByteArray) 0 l0 (l0.length : Int) 0) = some (r1, r2, r3) := H; have A5 := Qa.mk A50; clear A50; have H' := Qa.mk H; clear H
  go_enter Tryz.func9, Tryz.ntmps9
  go_wp2_with (first | ((with_reducible refine Zx (f := 19) rfl ?_); refine Yq (some 15) rfl rfl Tryz.func19 (by kernel_rfl) rfl #[.slice A0 l0.length c0] rfl (by (try simp only [List.map_toArray, List.map_cons, List.map_nil]); first | done | rfl | (simp only [List.length_drop, List.length_take]; rfl)) ?_; (with_reducible refine (Xh.calls k _ _ l0 true _ ?side1 ?side2 A3.out).mono ?_); (case side1 => repeat (first | exact HR0.out | (with_reducible refine Kd.C_alloc ?_ _) | (with_reducible refine Kd.C_drewN ?_ _) | (with_reducible refine Kd.C_drew ?_))); (case side2 => exact HC0.out); rintro e w6 ⟨rfl, hb⟩; refine ⟨_, rfl, ?_⟩; have n0_ := Qa.mk (Qk (by repeat (first | (with_reducible first | exact HB.out | apply Qc | apply Qb | apply Qd) | exact HB.out)) hb); clear HB; have HB := n0_; clear n0_; (try clear hb); (try clear hb2); (try clear hk); (try clear hi)) | ((with_reducible refine Zx (f := 20) rfl ?_); refine Yq (some 18) rfl rfl Tryz.func20 (by kernel_rfl) rfl #[.string a1] rfl (by (try simp only [List.map_toArray, List.map_cons, List.map_nil]); first | done | rfl | (simp only [List.length_drop, List.length_take]; rfl)) ?_; (with_reducible refine (Xl.calls k a1 a4 _ A5.out).mono ?_); rintro e w7 ⟨i2, rfl, ho0, hb⟩; refine ⟨_, rfl, ?_⟩; have n0_ := Qa.mk (Kd.R_lower ho0 (Qh (by repeat (first | (with_reducible first | exact HB.out | apply Qc | apply Qb | apply Qd) | exact HB.out)))); have n1_ := Qa.mk (Qk (by repeat (first | (with_reducible first | exact HB.out | apply Qc | apply Qb | apply Qd) | exact HB.out)) hb); clear HB; have j3 := n0_; have HB := n1_; clear n0_ n1_; (try clear hb); (try clear hb2); (try clear hk); (try clear hi); (try clear ho0)))
  go_loopg [8, 9, 21] k (fun kq v8 v9 v21 w' => ∃ (b8 : List ByteArray) (a7 : Int) (a0 : Int), v9 = .int .i64 a7 ∧ v21 = .int .i64 a0 ∧ Qa (Zl.l0 kq l0 a4 b8 a7 l0 (l0.length : Int) a0 = some (r1, r2, r3)) ∧ Qa (kq ≤ k) ∧ Qa (Kd.R Kd.string 9 w' w.heap.size (fun k_ => some k_ ≠ (v8 : Value).ownBlock) i2 a4) ∧ Qa (Kd.R Kd.string 9 w' w.heap.size (fun k_ => some k_ ≠ (i2 : Value).ownBlock) v8 b8) ∧ Qa (Below w.heap.size w w'))
  case atStart => exact ⟨(([] : List ByteArray)), (0), (0), (by first | rfl | (simp; done) | (simp [*]; done)), (by first | rfl | (simp; done) | (simp [*]; done)), H', ⟨Nat.le_refl _⟩, ⟨by (with_reducible repeat (first | apply Kd.R_alloc | apply Kd.R_drewN | apply Kd.R_drew)); exact Kd.R_mono j3.out (fun _ hk => (by simp [Value.ownBlock]))⟩, ⟨by first | exact Kd.R_nil _ _ _ _ _ | exact Kd.N_nil _ _ _ _ _ | exact Kd.V_nil _ _ _ _ _ | exact Kd.Q_nil _ _ _ _ _ | exact Kd.S_nil _ _ _ _ _⟩, ⟨by repeat (first | (with_reducible first | exact HB.out | apply Qc | apply Qb | apply Qd) | exact HB.out)⟩⟩
  case round =>
   clear H'
   try clear c1
   try clear c2
   try clear p2
   try clear c4
   obtain ⟨b8, a7, a0, rfl, rfl, HA, HK1, a5, b2, HB⟩ := hrel
   cases gk with
   | zero => exact absurd HA.out (by simp [Zl.l0])
   | succ k1 =>
    have H := HA.out; clear HA
    simp only [Zl.l0] at H
    by_cases c8 : a0 < (l0.length : Int)
    ·rw [if_pos c8] at H
     have k2 : decide (a0 < (l0.length : Int)) = true := decide_eq_true c8; clear c8
     by_cases c9 : 0 ≤ a0
     ·rw [if_pos c9] at H
      have s1 : decide (0 ≤ a0) = true := decide_eq_true c9; clear c9
      by_cases c10 : a0 < (l0.length : Int)
      ·rw [if_pos c10] at H
       have q0 : decide (a0 < (l0.length : Int)) = true := decide_eq_true c10; clear c10; replace H := Option.bind_eq_some_iff.mp H; obtain ⟨a6, i3, H⟩ := H; replace H : (if (wrap64 (((Qq l0 a0).f0) + (a6.length : Int))) > (a4.length : Int) then (some ((⟨#[]⟩ : ByteArray), 12, a0)) else (if 0 ≤ ((Qq l0 a0).f0) then (if ((Qq l0 a0).f0) ≤ (wrap64 (((Qq l0 a0).f0) + (a6.length : Int))) then (if (wrap64 (((Qq l0 a0).f0) + (a6.length : Int))) ≤ (a4.length : Int) then ((Qm.f k1 ((a4.take ((wrap64 (((Qq l0 a0).f0) + (a6.length : Int))) : Int).toNat).drop (((Qq l0 a0).f0) : Int).toNat) a6).bind fun e6 => (if e6 = true then (if 0 ≤ a7 then (if a7 ≤ ((Qq l0 a0).f0) then (if ((Qq l0 a0).f0) ≤ (a4.length : Int) then ((some ((a4.take (((Qq l0 a0).f0) : Int).toNat).drop (a7 : Int).toNat : List ByteArray)).bind fun b1 => (if b8.length + b1.length < 8796093022208 then ((some (b8 ++ b1 : List ByteArray)).bind fun b5 => ((Zo.f k1 ((Qq l0 a0).f2) 2).bind fun b0 => (if b5.length + b0.length < 8796093022208 then (Zl.l0 k1 l0 a4 (b5 ++ b0) (wrap64 (((Qq l0 a0).f0) + (a6.length : Int))) l0 (l0.length : Int) (wrap64 (a0 + 1))) else (none)))) else (none))) else (none)) else (none)) else (none)) else (some ((⟨#[]⟩ : ByteArray), 12, a0)))) else (none)) else (none)) else (none))) = some (r1, r2, r3) := H; have A11 := Qa.mk i3; clear i3
       by_cases c12 : (wrap64 (((Qq l0 a0).f0) + (a6.length : Int))) > (a4.length : Int)
       ·rw [if_pos c12] at H
        have j4 : decide ((a4.length : Int) < (wrap64 (((Qq l0 a0).f0) + (a6.length : Int)))) = true := decide_eq_true c12; clear c12
        simp only [Option.some.injEq, Prod.mk.injEq] at H
        obtain ⟨rfl, rfl, rfl⟩ := H; have e3 : 0 ≤ (a0 : Int) := of_decide_eq_true (by first | (with_reducible assumption) | assumption); have e4 : a0 < (l0.length : Int) := of_decide_eq_true (by first | (with_reducible assumption) | assumption); obtain ⟨h8, a8, a9, g6, b9, d0, d1, hl105_2, hi105_2⟩ := Qen HR0.out a0 e3 e4
        cases g6; replace b9 := (HB.out.cell (World.block_lt_of_cell? w _ b9)).trans b9; replace d0 := (HB.out.cell (World.block_lt_of_cell? w _ d0)).trans d0; replace d1 := (HB.out.cell (World.block_lt_of_cell? w _ d1)).trans d1; have e1 := Qa.mk hi105_2; have e2 := Qa.mk hl105_2; clear hi105_2 hl105_2; replace e3 := eq_true e3; replace e4 := eq_true e4; go_wp2_with (first | ((with_reducible refine Zs (N := 11) rfl ?_); refine Xd ?hg (N := 11) ?hd (cs := #[.int .i64 0, .int .i64 0, .slice none 0 0]) (t := 45) ?hr ?_; (case hd => rfl); (case hg => rfl); (case hr => first | (go_simp; done) | (go_simp; rfl)); intro a3 hg w13 hbox hb; have n0_ := Qa.mk (Kd.R_below (by (with_reducible repeat (first | apply Kd.R_alloc | apply Kd.R_drewN | apply Kd.R_drew)); exact a5.out) hb); have n1_ := Qa.mk (Kd.R_below (by (with_reducible repeat (first | apply Kd.R_alloc | apply Kd.R_drewN | apply Kd.R_drew)); exact b2.out) hb); have n2_ := Qa.mk (Qk (by repeat (first | (with_reducible first | exact HB.out | apply Qc | apply Qb | apply Qd) | exact HB.out)) hb); have n3_ := Qa.mk (hbox); have n4_ := Qa.mk ((by rw [hg]; exact (Qh (by repeat (first | (with_reducible first | exact HB.out | apply Qc | apply Qb | apply Qd) | exact HB.out))) : w.heap.size ≤ a3)); have n5_ := Qa.mk ((by rw [hg]; exact (Qh (by repeat (first | (with_reducible first | exact HB.out | apply Qc | apply Qb | apply Qd) | exact HB.out))) : w.heap.size ≤ a3)); clear a5; clear b2; clear HB; have a5 := n0_; have b2 := n1_; have HB := n2_; have a2 := n3_; have h9 := n4_; have GE106 := n5_; clear n0_ n1_ n2_ n3_ n4_ n5_; clear hb hbox hg; have l6 : w13.cell? ⟨a3, 0, none⟩ = some (.int .i64 0) := (Ql a2.out 0).trans rfl; have l7 : w13.cell? ⟨a3, 1, none⟩ = some (.int .i64 0) := (Ql a2.out 1).trans rfl; have l8 : w13.cell? ⟨a3, 2, none⟩ = some (.slice none 0 0) := (Ql a2.out 2).trans rfl; have l9 := Qo a2.out 0; have m0 := Qo a2.out 1; have m1 := Qo a2.out 2) | ((with_reducible refine Zx (f := 21) rfl ?_); refine Yq (some 28) rfl rfl Tryz.func21 (by kernel_rfl) rfl #[.slice a8 ((Qq l0 a0).f2).length a9, .int .i64 1] rfl (by (try simp only [List.map_toArray, List.map_cons, List.map_nil]); first | done | rfl | (simp only [List.length_drop, List.length_take]; rfl)) ?_; (with_reducible refine (Zo.calls k1 _ _ ((Qq l0 a0).f2) 1 a6 _ ?side1 ?side2 A11.out).mono ?_); (case side1 => exact Kd.C_below e1.out (by repeat (first | (with_reducible first | exact HB.out | apply Qc | apply Qb | apply Qd | refine Qu ?_ GE106.out) | exact HB.out))); (case side2 => exact e2.out); rintro e w15 ⟨i4, rfl, ho0, hb⟩; refine ⟨_, rfl, ?_⟩; have n0_ := Qa.mk (Kd.R_elder' (by (with_reducible repeat (first | apply Kd.R_alloc | apply Kd.R_drewN | apply Kd.R_drew)); exact (Kd.R_mono (Kd.R_far (p := ⟨a3, 2, none⟩) (Kd.R_far (p := ⟨a3, 1, none⟩) (Kd.R_far (p := ⟨a3, 0, none⟩) (Kd.R_types a5.out a2.out (by decide)) (fun _ hk => hk.2) (.int .i64 ((Qq l0 a0).f0))) (fun _ hk => hk.2) (.int .i64 ((Qq l0 a0).f1))) (fun _ hk => hk.2) (.slice a8 ((Qq l0 a0).f2).length a9)) (fun _ h_ => h_.1))) (Kd.R_base ho0) hb); have n1_ := Qa.mk (Kd.R_elder' (by (with_reducible repeat (first | apply Kd.R_alloc | apply Kd.R_drewN | apply Kd.R_drew)); exact (Kd.R_mono (Kd.R_far (p := ⟨a3, 2, none⟩) (Kd.R_far (p := ⟨a3, 1, none⟩) (Kd.R_far (p := ⟨a3, 0, none⟩) (Kd.R_types b2.out a2.out (by decide)) (fun _ hk => hk.2) (.int .i64 ((Qq l0 a0).f0))) (fun _ hk => hk.2) (.int .i64 ((Qq l0 a0).f1))) (fun _ hk => hk.2) (.slice a8 ((Qq l0 a0).f2).length a9)) (fun _ h_ => h_.1))) (Kd.R_base ho0) hb); have n2_ := Qa.mk (Kd.R_lower (Kd.R_new' (Kd.R_new' ho0 (Kd.R_lt (by (with_reducible repeat (first | apply Kd.R_alloc | apply Kd.R_drewN | apply Kd.R_drew)); exact (Kd.R_mono (Kd.R_far (p := ⟨a3, 2, none⟩) (Kd.R_far (p := ⟨a3, 1, none⟩) (Kd.R_far (p := ⟨a3, 0, none⟩) (Kd.R_types a5.out a2.out (by decide)) (fun _ hk => hk.2) (.int .i64 ((Qq l0 a0).f0))) (fun _ hk => hk.2) (.int .i64 ((Qq l0 a0).f1))) (fun _ hk => hk.2) (.slice a8 ((Qq l0 a0).f2).length a9)) (fun _ h_ => h_.1))))) (Kd.R_lt (by (with_reducible repeat (first | apply Kd.R_alloc | apply Kd.R_drewN | apply Kd.R_drew)); exact (Kd.R_mono (Kd.R_far (p := ⟨a3, 2, none⟩) (Kd.R_far (p := ⟨a3, 1, none⟩) (Kd.R_far (p := ⟨a3, 0, none⟩) (Kd.R_types b2.out a2.out (by decide)) (fun _ hk => hk.2) (.int .i64 ((Qq l0 a0).f0))) (fun _ hk => hk.2) (.int .i64 ((Qq l0 a0).f1))) (fun _ hk => hk.2) (.slice a8 ((Qq l0 a0).f2).length a9)) (fun _ h_ => h_.1))))) (Qh (by repeat (first | (with_reducible first | exact HB.out | apply Qc | apply Qb | apply Qd | refine Qu ?_ GE106.out) | exact HB.out)))); have n3_ := Qa.mk (Xt (g := a3) (o := .cells #[.int .i64 ((Qq l0 a0).f0), .int .i64 ((Qq l0 a0).f1), .slice a8 ((Qq l0 a0).f2).length a9] 45 (0, 0)) (by (with_reducible repeat (first | refine Zf ?_ _ | refine Zg ?_ | refine Zb ?_ _)); refine Zu (cs := #[.int .i64 ((Qq l0 a0).f0), .int .i64 ((Qq l0 a0).f1), .slice none 0 0]) ?_ 2 _ rfl; (with_reducible repeat (first | refine Zf ?_ _ | refine Zg ?_ | refine Zb ?_ _)); refine Zu (cs := #[.int .i64 ((Qq l0 a0).f0), .int .i64 0, .slice none 0 0]) ?_ 1 _ rfl; (with_reducible repeat (first | refine Zf ?_ _ | refine Zg ?_ | refine Zb ?_ _)); refine Zu (cs := #[.int .i64 0, .int .i64 0, .slice none 0 0]) ?_ 0 _ rfl; (with_reducible repeat (first | refine Zf ?_ _ | refine Zg ?_ | refine Zb ?_ _)); exact a2.out) hb); have n4_ := Qa.mk (Qk (by repeat (first | (with_reducible first | exact HB.out | apply Qc | apply Qb | apply Qd | refine Qu ?_ GE106.out) | exact HB.out)) hb); clear a5; clear b2; clear a2; clear HB; have a5 := n0_; have b2 := n1_; have b3 := n2_; have a2 := n3_; have HB := n4_; clear n0_ n1_ n2_ n3_ n4_; (try clear hb); (try clear hb2); (try clear hk); (try clear hi); (try clear ho0); have m2 : w15.cell? ⟨a3, 0, none⟩ = some (.int .i64 ((Qq l0 a0).f0)) := (Ql a2.out 0).trans rfl; have m3 : w15.cell? ⟨a3, 1, none⟩ = some (.int .i64 ((Qq l0 a0).f1)) := (Ql a2.out 1).trans rfl; have m4 : w15.cell? ⟨a3, 2, none⟩ = some (.slice a8 ((Qq l0 a0).f2).length a9) := (Ql a2.out 2).trans rfl; have m5 := Qo a2.out 0; have m6 := Qo a2.out 1; have m7 := Qo a2.out 2; obtain ⟨s2, s3, eo17⟩ := Kd.R_slice b3.out; subst eo17; obtain ⟨s4, s5, eo18⟩ := Kd.R_slice a5.out; subst eo18))
        go_ret3
        exact ⟨by first | rfl | (simp [Qz, Za] <;> rfl) | (simp [*, Qz, Za] <;> rfl), by repeat (first | (with_reducible first | exact HB.out | apply Qc | apply Qb | apply Qd | refine Qu ?_ GE106.out) | exact HB.out)⟩
       ·rw [if_neg c12] at H
        have j4 : decide ((a4.length : Int) < (wrap64 (((Qq l0 a0).f0) + (a6.length : Int)))) = false := decide_eq_false c12; clear c12
        by_cases c19 : 0 ≤ ((Qq l0 a0).f0)
        ·rw [if_pos c19] at H
         have q1 := eq_true c19; have q2 : decide (0 ≤ ((Qq l0 a0).f0)) = true := decide_eq_true c19; clear c19
         by_cases c20 : ((Qq l0 a0).f0) ≤ (wrap64 (((Qq l0 a0).f0) + (a6.length : Int)))
         ·rw [if_pos c20] at H
          have q3 := eq_true c20; have q4 : decide (((Qq l0 a0).f0) ≤ (wrap64 (((Qq l0 a0).f0) + (a6.length : Int)))) = true := decide_eq_true c20
          by_cases c21 : (wrap64 (((Qq l0 a0).f0) + (a6.length : Int))) ≤ (a4.length : Int)
          ·rw [if_pos c21] at H
           have q5 := eq_true c21; have q6 : decide ((wrap64 (((Qq l0 a0).f0) + (a6.length : Int))) ≤ (a4.length : Int)) = true := decide_eq_true c21; obtain ⟨d3, f8⟩ : ∃ y_ : List ByteArray, y_ = ((a4.take ((wrap64 (((Qq l0 a0).f0) + (a6.length : Int))) : Int).toNat).drop (((Qq l0 a0).f0) : Int).toNat) := ⟨_, rfl⟩
           replace H : ((Qm.f k1 d3 a6).bind fun e6 => (if e6 = true then (if 0 ≤ a7 then (if a7 ≤ ((Qq l0 a0).f0) then (if ((Qq l0 a0).f0) ≤ (a4.length : Int) then ((some ((a4.take (((Qq l0 a0).f0) : Int).toNat).drop (a7 : Int).toNat : List ByteArray)).bind fun b1 => (if b8.length + b1.length < 8796093022208 then ((some (b8 ++ b1 : List ByteArray)).bind fun b5 => ((Zo.f k1 ((Qq l0 a0).f2) 2).bind fun b0 => (if b5.length + b0.length < 8796093022208 then (Zl.l0 k1 l0 a4 (b5 ++ b0) (wrap64 (((Qq l0 a0).f0) + (a6.length : Int))) l0 (l0.length : Int) (wrap64 (a0 + 1))) else (none)))) else (none))) else (none)) else (none)) else (none)) else (some ((⟨#[]⟩ : ByteArray), 12, a0)))) = some (r1, r2, r3) := by first | (rw [f8]; with_reducible exact H) | (have H2_ := (Option.bind_some _ _).symm.trans H; rw [f8]; with_reducible exact H2_) | (have H2_ := (Option.bind_some _ _).symm.trans H; with_reducible exact H2_) | with_reducible exact H | (rw [f8]; exact H) | exact H
           have e8 := Qa.mk f8; clear f8; replace H := Option.bind_eq_some_iff.mp H; obtain ⟨e6, i5, H⟩ := H; replace H : (if e6 = true then (if 0 ≤ a7 then (if a7 ≤ ((Qq l0 a0).f0) then (if ((Qq l0 a0).f0) ≤ (a4.length : Int) then ((some ((a4.take (((Qq l0 a0).f0) : Int).toNat).drop (a7 : Int).toNat : List ByteArray)).bind fun b1 => (if b8.length + b1.length < 8796093022208 then ((some (b8 ++ b1 : List ByteArray)).bind fun b5 => ((Zo.f k1 ((Qq l0 a0).f2) 2).bind fun b0 => (if b5.length + b0.length < 8796093022208 then (Zl.l0 k1 l0 a4 (b5 ++ b0) (wrap64 (((Qq l0 a0).f0) + (a6.length : Int))) l0 (l0.length : Int) (wrap64 (a0 + 1))) else (none)))) else (none))) else (none)) else (none)) else (none)) else (some ((⟨#[]⟩ : ByteArray), 12, a0))) = some (r1, r2, r3) := H; have A22 := Qa.mk i5; clear i5
           by_cases c23 : e6 = true
           ·subst c23
            have H1 : (if 0 ≤ a7 then (if a7 ≤ ((Qq l0 a0).f0) then (if ((Qq l0 a0).f0) ≤ (a4.length : Int) then ((some ((a4.take (((Qq l0 a0).f0) : Int).toNat).drop (a7 : Int).toNat : List ByteArray)).bind fun b1 => (if b8.length + b1.length < 8796093022208 then ((some (b8 ++ b1 : List ByteArray)).bind fun b5 => ((Zo.f k1 ((Qq l0 a0).f2) 2).bind fun b0 => (if b5.length + b0.length < 8796093022208 then (Zl.l0 k1 l0 a4 (b5 ++ b0) (wrap64 (((Qq l0 a0).f0) + (a6.length : Int))) l0 (l0.length : Int) (wrap64 (a0 + 1))) else (none)))) else (none))) else (none)) else (none)) else (none)) = some (r1, r2, r3) := by rw [if_pos rfl] at H; exact H
            clear H; have H := H1; clear H1
            by_cases c24 : 0 ≤ a7
            ·rw [if_pos c24] at H
             have q7 := eq_true c24; have q8 : decide (0 ≤ a7) = true := decide_eq_true c24; clear c24
             by_cases c25 : a7 ≤ ((Qq l0 a0).f0)
             ·rw [if_pos c25] at H
              have q9 := eq_true c25; have r0 : decide (a7 ≤ ((Qq l0 a0).f0)) = true := decide_eq_true c25; clear c25
              by_cases c26 : ((Qq l0 a0).f0) ≤ (a4.length : Int)
              ·rw [if_pos c26] at H
               have r4 := eq_true c26; have r5 : decide (((Qq l0 a0).f0) ≤ (a4.length : Int)) = true := decide_eq_true c26; clear c26; obtain ⟨b1, f9⟩ : ∃ y_ : List ByteArray, y_ = ((a4.take (((Qq l0 a0).f0) : Int).toNat).drop (a7 : Int).toNat) := ⟨_, rfl⟩
               replace H : (if b8.length + b1.length < 8796093022208 then ((some (b8 ++ b1 : List ByteArray)).bind fun b5 => ((Zo.f k1 ((Qq l0 a0).f2) 2).bind fun b0 => (if b5.length + b0.length < 8796093022208 then (Zl.l0 k1 l0 a4 (b5 ++ b0) (wrap64 (((Qq l0 a0).f0) + (a6.length : Int))) l0 (l0.length : Int) (wrap64 (a0 + 1))) else (none)))) else (none)) = some (r1, r2, r3) := by first | (rw [f9]; with_reducible exact H) | (have H2_ := (Option.bind_some _ _).symm.trans H; rw [f9]; with_reducible exact H2_) | (have H2_ := (Option.bind_some _ _).symm.trans H; with_reducible exact H2_) | with_reducible exact H | (rw [f9]; exact H) | exact H
               have g5 := Qa.mk f9; clear f9
               by_cases c27 : b8.length + b1.length < 8796093022208
               ·rw [if_pos c27] at H
                have j5 := Qa.mk c27; clear c27; obtain ⟨b5, g0⟩ : ∃ y_ : List ByteArray, y_ = (b8 ++ b1) := ⟨_, rfl⟩
                replace H : ((Zo.f k1 ((Qq l0 a0).f2) 2).bind fun b0 => (if b5.length + b0.length < 8796093022208 then (Zl.l0 k1 l0 a4 (b5 ++ b0) (wrap64 (((Qq l0 a0).f0) + (a6.length : Int))) l0 (l0.length : Int) (wrap64 (a0 + 1))) else (none))) = some (r1, r2, r3) := by first | (rw [g0]; with_reducible exact H) | (have H2_ := (Option.bind_some _ _).symm.trans H; rw [g0]; with_reducible exact H2_) | (have H2_ := (Option.bind_some _ _).symm.trans H; with_reducible exact H2_) | with_reducible exact H | (rw [g0]; exact H) | exact H
                have j6 := Qa.mk g0; clear g0; replace H := Option.bind_eq_some_iff.mp H; obtain ⟨b0, i6, H⟩ := H; replace H : (if b5.length + b0.length < 8796093022208 then (Zl.l0 k1 l0 a4 (b5 ++ b0) (wrap64 (((Qq l0 a0).f0) + (a6.length : Int))) l0 (l0.length : Int) (wrap64 (a0 + 1))) else (none)) = some (r1, r2, r3) := H; have A28 := Qa.mk i6; clear i6
                by_cases c29 : b5.length + b0.length < 8796093022208
                ·rw [if_pos c29] at H
                 have j7 := Qa.mk c29; clear c29; obtain ⟨i7, g1⟩ : ∃ y_ : List ByteArray, y_ = (b5 ++ b0) := ⟨_, rfl⟩
                 replace H : (Zl.l0 k1 l0 a4 i7 (wrap64 (((Qq l0 a0).f0) + (a6.length : Int))) l0 (l0.length : Int) (wrap64 (a0 + 1))) = some (r1, r2, r3) := by first | (rw [g1]; with_reducible exact H) | (have H2_ := (Option.bind_some _ _).symm.trans H; rw [g1]; with_reducible exact H2_) | (have H2_ := (Option.bind_some _ _).symm.trans H; with_reducible exact H2_) | with_reducible exact H | (rw [g1]; exact H) | exact H
                 have j8 := Qa.mk g1; clear g1; have H' := Qa.mk H; clear H; have e3 : 0 ≤ (a0 : Int) := of_decide_eq_true (by first | (with_reducible assumption) | assumption); have e4 : a0 < (l0.length : Int) := of_decide_eq_true (by first | (with_reducible assumption) | assumption); obtain ⟨h8, a8, a9, g6, b9, d0, d1, hl105_2, hi105_2⟩ := Qen HR0.out a0 e3 e4
                 cases g6; replace b9 := (HB.out.cell (World.block_lt_of_cell? w _ b9)).trans b9; replace d0 := (HB.out.cell (World.block_lt_of_cell? w _ d0)).trans d0; replace d1 := (HB.out.cell (World.block_lt_of_cell? w _ d1)).trans d1; have e1 := Qa.mk hi105_2; have e2 := Qa.mk hl105_2; clear hi105_2 hl105_2; replace e3 := eq_true e3; replace e4 := eq_true e4; go_wp2_with (first | ((with_reducible refine Zs (N := 11) rfl ?_); refine Xd ?hg (N := 11) ?hd (cs := #[.int .i64 0, .int .i64 0, .slice none 0 0]) (t := 45) ?hr ?_; (case hd => rfl); (case hg => rfl); (case hr => first | (go_simp; done) | (go_simp; rfl)); intro a3 hg w30 hbox hb; have n0_ := Qa.mk (Kd.R_below (by (with_reducible repeat (first | apply Kd.R_alloc | apply Kd.R_drewN | apply Kd.R_drew)); exact a5.out) hb); have n1_ := Qa.mk (Kd.R_below (by (with_reducible repeat (first | apply Kd.R_alloc | apply Kd.R_drewN | apply Kd.R_drew)); exact b2.out) hb); have n2_ := Qa.mk (Qk (by repeat (first | (with_reducible first | exact HB.out | apply Qc | apply Qb | apply Qd) | exact HB.out)) hb); have n3_ := Qa.mk (hbox); have n4_ := Qa.mk ((by rw [hg]; exact (Qh (by repeat (first | (with_reducible first | exact HB.out | apply Qc | apply Qb | apply Qd) | exact HB.out))) : w.heap.size ≤ a3)); have n5_ := Qa.mk ((by rw [hg]; exact (Qh (by repeat (first | (with_reducible first | exact HB.out | apply Qc | apply Qb | apply Qd) | exact HB.out))) : w.heap.size ≤ a3)); clear a5; clear b2; clear HB; have a5 := n0_; have b2 := n1_; have HB := n2_; have a2 := n3_; have h9 := n4_; have GE106 := n5_; clear n0_ n1_ n2_ n3_ n4_ n5_; clear hb hbox hg; have m8 : w30.cell? ⟨a3, 0, none⟩ = some (.int .i64 0) := (Ql a2.out 0).trans rfl; have m9 : w30.cell? ⟨a3, 1, none⟩ = some (.int .i64 0) := (Ql a2.out 1).trans rfl; have n0 : w30.cell? ⟨a3, 2, none⟩ = some (.slice none 0 0) := (Ql a2.out 2).trans rfl; have n1 := Qo a2.out 0; have n2 := Qo a2.out 1; have n3 := Qo a2.out 2) | ((with_reducible refine Zx (f := 21) rfl ?_); refine Yq (some 28) rfl rfl Tryz.func21 (by kernel_rfl) rfl #[.slice a8 ((Qq l0 a0).f2).length a9, .int .i64 1] rfl (by (try simp only [List.map_toArray, List.map_cons, List.map_nil]); first | done | rfl | (simp only [List.length_drop, List.length_take]; rfl)) ?_; (with_reducible refine (Zo.calls k1 _ _ ((Qq l0 a0).f2) 1 a6 _ ?side1 ?side2 A11.out).mono ?_); (case side1 => exact Kd.C_below e1.out (by repeat (first | (with_reducible first | exact HB.out | apply Qc | apply Qb | apply Qd | refine Qu ?_ GE106.out) | exact HB.out))); (case side2 => exact e2.out); rintro e w32 ⟨i4, rfl, ho0, hb⟩; refine ⟨_, rfl, ?_⟩; have n0_ := Qa.mk (Kd.R_elder' (by (with_reducible repeat (first | apply Kd.R_alloc | apply Kd.R_drewN | apply Kd.R_drew)); exact (Kd.R_mono (Kd.R_far (p := ⟨a3, 2, none⟩) (Kd.R_far (p := ⟨a3, 1, none⟩) (Kd.R_far (p := ⟨a3, 0, none⟩) (Kd.R_types a5.out a2.out (by decide)) (fun _ hk => hk.2) (.int .i64 ((Qq l0 a0).f0))) (fun _ hk => hk.2) (.int .i64 ((Qq l0 a0).f1))) (fun _ hk => hk.2) (.slice a8 ((Qq l0 a0).f2).length a9)) (fun _ h_ => h_.1))) (Kd.R_base ho0) hb); have n1_ := Qa.mk (Kd.R_elder' (by (with_reducible repeat (first | apply Kd.R_alloc | apply Kd.R_drewN | apply Kd.R_drew)); exact (Kd.R_mono (Kd.R_far (p := ⟨a3, 2, none⟩) (Kd.R_far (p := ⟨a3, 1, none⟩) (Kd.R_far (p := ⟨a3, 0, none⟩) (Kd.R_types b2.out a2.out (by decide)) (fun _ hk => hk.2) (.int .i64 ((Qq l0 a0).f0))) (fun _ hk => hk.2) (.int .i64 ((Qq l0 a0).f1))) (fun _ hk => hk.2) (.slice a8 ((Qq l0 a0).f2).length a9)) (fun _ h_ => h_.1))) (Kd.R_base ho0) hb); have n2_ := Qa.mk (Kd.R_lower (Kd.R_new' (Kd.R_new' ho0 (Kd.R_lt (by (with_reducible repeat (first | apply Kd.R_alloc | apply Kd.R_drewN | apply Kd.R_drew)); exact (Kd.R_mono (Kd.R_far (p := ⟨a3, 2, none⟩) (Kd.R_far (p := ⟨a3, 1, none⟩) (Kd.R_far (p := ⟨a3, 0, none⟩) (Kd.R_types a5.out a2.out (by decide)) (fun _ hk => hk.2) (.int .i64 ((Qq l0 a0).f0))) (fun _ hk => hk.2) (.int .i64 ((Qq l0 a0).f1))) (fun _ hk => hk.2) (.slice a8 ((Qq l0 a0).f2).length a9)) (fun _ h_ => h_.1))))) (Kd.R_lt (by (with_reducible repeat (first | apply Kd.R_alloc | apply Kd.R_drewN | apply Kd.R_drew)); exact (Kd.R_mono (Kd.R_far (p := ⟨a3, 2, none⟩) (Kd.R_far (p := ⟨a3, 1, none⟩) (Kd.R_far (p := ⟨a3, 0, none⟩) (Kd.R_types b2.out a2.out (by decide)) (fun _ hk => hk.2) (.int .i64 ((Qq l0 a0).f0))) (fun _ hk => hk.2) (.int .i64 ((Qq l0 a0).f1))) (fun _ hk => hk.2) (.slice a8 ((Qq l0 a0).f2).length a9)) (fun _ h_ => h_.1))))) (Qh (by repeat (first | (with_reducible first | exact HB.out | apply Qc | apply Qb | apply Qd | refine Qu ?_ GE106.out) | exact HB.out)))); have n3_ := Qa.mk (Xt (g := a3) (o := .cells #[.int .i64 ((Qq l0 a0).f0), .int .i64 ((Qq l0 a0).f1), .slice a8 ((Qq l0 a0).f2).length a9] 45 (0, 0)) (by (with_reducible repeat (first | refine Zf ?_ _ | refine Zg ?_ | refine Zb ?_ _)); refine Zu (cs := #[.int .i64 ((Qq l0 a0).f0), .int .i64 ((Qq l0 a0).f1), .slice none 0 0]) ?_ 2 _ rfl; (with_reducible repeat (first | refine Zf ?_ _ | refine Zg ?_ | refine Zb ?_ _)); refine Zu (cs := #[.int .i64 ((Qq l0 a0).f0), .int .i64 0, .slice none 0 0]) ?_ 1 _ rfl; (with_reducible repeat (first | refine Zf ?_ _ | refine Zg ?_ | refine Zb ?_ _)); refine Zu (cs := #[.int .i64 0, .int .i64 0, .slice none 0 0]) ?_ 0 _ rfl; (with_reducible repeat (first | refine Zf ?_ _ | refine Zg ?_ | refine Zb ?_ _)); exact a2.out) hb); have n4_ := Qa.mk (Qk (by repeat (first | (with_reducible first | exact HB.out | apply Qc | apply Qb | apply Qd | refine Qu ?_ GE106.out) | exact HB.out)) hb); clear a5; clear b2; clear a2; clear HB; have a5 := n0_; have b2 := n1_; have b3 := n2_; have a2 := n3_; have HB := n4_; clear n0_ n1_ n2_ n3_ n4_; (try clear hb); (try clear hb2); (try clear hk); (try clear hi); (try clear ho0); have n4 : w32.cell? ⟨a3, 0, none⟩ = some (.int .i64 ((Qq l0 a0).f0)) := (Ql a2.out 0).trans rfl; have n5 : w32.cell? ⟨a3, 1, none⟩ = some (.int .i64 ((Qq l0 a0).f1)) := (Ql a2.out 1).trans rfl; have n6 : w32.cell? ⟨a3, 2, none⟩ = some (.slice a8 ((Qq l0 a0).f2).length a9) := (Ql a2.out 2).trans rfl; have n7 := Qo a2.out 0; have n8 := Qo a2.out 1; have n9 := Qo a2.out 2; obtain ⟨d6, d7, eo34⟩ := Kd.R_slice b3.out; subst eo34; obtain ⟨d8, d2, eo35⟩ := Kd.R_slice a5.out; subst eo35; have q36 : ((wrap64 (((Qq l0 a0).f0) + (a6.length : Int))) : Int) ≤ ((a4.length : Int) : Int) := of_decide_eq_true (by first | (with_reducible assumption) | assumption); obtain ⟨i036, hi036, _, hsz36, _⟩ := info_parts Vy; have hroom36 : a4.length ≤ d2 := (Kd.R_reads' a5.out).2.1; have hC36 : Kd.C Kd.string _ d8 a4.length a4 := (Kd.R_reads' a5.out).2.2; have ql36 : (((Qq l0 a0).f0) : Int) ≤ ((wrap64 (((Qq l0 a0).f0) + (a6.length : Int))) : Int) := of_decide_eq_true (by first | (with_reducible assumption) | assumption); have k4 : (0 : Int) ≤ (((Qq l0 a0).f0) : Int) := of_decide_eq_true (by first | (with_reducible assumption) | assumption); have hcut36 := Qch (P := Tryz.prog) 46 9 .i64 .i64 Tryz.underlying46 hi036 1 hsz36 d8 a4.length d2 ((Qq l0 a0).f0) (wrap64 (((Qq l0 a0).f0) + (a6.length : Int))) k4 ql36 q36 hroom36; have hr36 := Kd.C_mid (lo := (((Qq l0 a0).f0) : Int).toNat) (hi := ((wrap64 (((Qq l0 a0).f0) + (a6.length : Int))) : Int).toNat) (c := d2) hC36 (by omega) (by omega) hroom36; obtain ⟨A36, hA36⟩ : ∃ A1, A1 = (if d2 = (((Qq l0 a0).f0) : Int).toNat then d8 else (d8 : Option Addr).map (·.add ((((Qq l0 a0).f0) : Int).toNat * 1))) := ⟨_, rfl⟩; obtain ⟨c36, hc36⟩ : ∃ c1, c1 = d2 - (((Qq l0 a0).f0) : Int).toNat := ⟨_, rfl⟩; have h0 : d3.length = ((wrap64 (((Qq l0 a0).f0) + (a6.length : Int))) : Int).toNat - (((Qq l0 a0).f0) : Int).toNat := (by rw [e8.out, List.length_drop, List.length_take] <;> omega); rw [show ((a4).take ((wrap64 (((Qq l0 a0).f0) + (a6.length : Int))) : Int).toNat).drop (((Qq l0 a0).f0) : Int).toNat = d3 from e8.out.symm] at hr36; replace hr36 : Kd.C Kd.string _ A36 d3.length d3 := (by rw [hA36]; exact hr36); rw [← h0, ← hA36, ← hc36] at hcut36; have d4 := Qa.mk hr36; have h2 := Qa.mk (show d3.length ≤ c36 from by rw [h0, hc36]; exact Nat.sub_le_sub_right (Nat.le_trans (by omega) hroom36) _); clear hr36 hC36 hroom36 hi036 hsz36 hc36; have KY36 := Qa.mk h0; have KA36 := Qa.mk hA36; clear h0 hA36; have KL36 := Qa.mk (show ((wrap64 (((Qq l0 a0).f0) + (a6.length : Int))) : Int).toNat ≤ a4.length from by omega); have KM36 := Qa.mk (show (((Qq l0 a0).f0) : Int).toNat ≤ ((wrap64 (((Qq l0 a0).f0) + (a6.length : Int))) : Int).toNat from by omega); replace q36 := eq_true q36) | (go_at_call 22; (with_reducible refine (Qm.calls k1 _ _ d3 _ _ a6 true _ ?side1 ?side2 ?side3 ?side4 A22.out).mono ?_); (case side1 => repeat (first | exact (by repeat (first | (with_reducible exact d4.out) | (with_reducible refine Kd.C_alloc ?_ _) | (with_reducible refine Kd.C_drewN ?_ _) | (with_reducible refine Kd.C_drew ?_) | exact d4.out)) | (with_reducible refine Kd.C_alloc ?_ _) | (with_reducible refine Kd.C_drewN ?_ _) | (with_reducible refine Kd.C_drew ?_))); (case side2 => exact h2.out); (case side3 => repeat (first | exact (Kd.R_reads' b3.out).2.2 | (with_reducible refine Kd.C_alloc ?_ _) | (with_reducible refine Kd.C_drewN ?_ _) | (with_reducible refine Kd.C_drew ?_))); (case side4 => exact (Kd.R_reads' b3.out).2.1); rintro e w' ⟨rfl, ⟨nd, rfl⟩⟩; have q37 : (((Qq l0 a0).f0) : Int) ≤ ((a4.length : Int) : Int) := of_decide_eq_true (by first | (with_reducible assumption) | assumption); obtain ⟨i037, hi037, _, hsz37, _⟩ := info_parts Vy; have hroom37 : a4.length ≤ d2 := (Kd.R_reads' a5.out).2.1; have hC37 : Kd.C Kd.string _ d8 a4.length a4 := (Kd.R_reads' a5.out).2.2; have ql37 : (a7 : Int) ≤ (((Qq l0 a0).f0) : Int) := of_decide_eq_true (by first | (with_reducible assumption) | assumption); have k5 : (0 : Int) ≤ (a7 : Int) := of_decide_eq_true (by first | (with_reducible assumption) | assumption); have hcut37 := Qch (P := Tryz.prog) 46 9 .i64 .i64 Tryz.underlying46 hi037 1 hsz37 d8 a4.length d2 a7 ((Qq l0 a0).f0) k5 ql37 q37 hroom37; have hr37 := Kd.C_mid (lo := (a7 : Int).toNat) (hi := (((Qq l0 a0).f0) : Int).toNat) (c := d2) hC37 (by omega) (by omega) hroom37; obtain ⟨A37, hA37⟩ : ∃ A1, A1 = (if d2 = (a7 : Int).toNat then d8 else (d8 : Option Addr).map (·.add ((a7 : Int).toNat * 1))) := ⟨_, rfl⟩; obtain ⟨c37, hc37⟩ : ∃ c1, c1 = d2 - (a7 : Int).toNat := ⟨_, rfl⟩; have h3 : b1.length = (((Qq l0 a0).f0) : Int).toNat - (a7 : Int).toNat := (by rw [g5.out, List.length_drop, List.length_take] <;> omega); rw [show ((a4).take (((Qq l0 a0).f0) : Int).toNat).drop (a7 : Int).toNat = b1 from g5.out.symm] at hr37; replace hr37 : Kd.C Kd.string _ A37 b1.length b1 := (by rw [hA37]; exact hr37); rw [← h3, ← hA37, ← hc37] at hcut37; have d9 := Qa.mk hr37; have r6 := Qa.mk (show b1.length ≤ c37 from by rw [h3, hc37]; exact Nat.sub_le_sub_right (Nat.le_trans (by omega) hroom37) _); clear hr37 hC37 hroom37 hi037 hsz37 hc37; have KY37 := Qa.mk h3; have KA37 := Qa.mk hA37; clear h3 hA37; have KL37 := Qa.mk (show (((Qq l0 a0).f0) : Int).toNat ≤ a4.length from by omega); have KM37 := Qa.mk (show (a7 : Int).toNat ≤ (((Qq l0 a0).f0) : Int).toNat from by omega); replace q37 := eq_true q37) | ((with_reducible refine Zj (b := .append) (xs := #[.tmp 49, .tmp 54]) rfl ?_); at_builtin; refine Kd.R_append_rows Kd.string (w0 := w) w.heap.size rfl (.tmp 49) (.tmp 54) 46 9 (.string ⟨#[]⟩) 16 rfl Tryz.underlying46 Vy rfl (by decide) (by omega) u8 b8 b1 _ _ _ (fun k_ => some k_ ≠ (.slice d8 a4.length d2 : Value).ownBlock ∧ some k_ ≠ (.slice d6 a6.length d7 : Value).ownBlock) (fun _ => False) rfl rfl ?aO ?aR (fun _ _ h => h) (fun _ h => h.elim) ?aF ?aB ?aS ?aL ?_; (case aR => repeat (first | exact (by repeat (first | (with_reducible exact d9.out) | (with_reducible refine Kd.C_alloc ?_ _) | (with_reducible refine Kd.C_drewN ?_ _) | (with_reducible refine Kd.C_drew ?_) | exact d9.out)) | (with_reducible refine Kd.C_alloc ?_ _) | (with_reducible refine Kd.C_drewN ?_ _) | (with_reducible refine Kd.C_drew ?_))); (case aB => exact (by repeat (first | (with_reducible first | exact HB.out | apply Qc | apply Qb | apply Qd | refine Qu ?_ GE106.out) | exact HB.out))); (case aF => exact (fun k_ hk => ⟨Kd.fresh' (Kd.R_lt (by (with_reducible repeat (first | apply Kd.R_alloc | apply Kd.R_drewN | apply Kd.R_drew)); exact a5.out)) k_ hk, Kd.fresh' (Kd.R_lt (by (with_reducible repeat (first | apply Kd.R_alloc | apply Kd.R_drewN | apply Kd.R_drew)); exact b3.out)) k_ hk⟩)); (case aO => exact (by (with_reducible repeat (first | apply Kd.R_alloc | apply Kd.R_drewN | apply Kd.R_drew)); exact b2.out)); (case aS => exact (Qh (by repeat (first | (with_reducible first | exact HB.out | apply Qc | apply Qb | apply Qd | refine Qu ?_ GE106.out) | exact HB.out)))); (case aL => have := j5.out; omega); intro k6 w38 ho hb hg hat; rw [← j6.out] at ho; have n0_ := Qa.mk (Kd.R_after (ok := (fun k_ => some k_ ≠ (.slice d6 a6.length d7 : Value).ownBlock)) (by (with_reducible repeat (first | apply Kd.R_alloc | apply Kd.R_drewN | apply Kd.R_drew)); exact Kd.R_mono a5.out (fun _ hk => ⟨hk.2, hk.1⟩)) hg hat); have n1_ := Qa.mk (Yv (g := a3) (o := .cells #[.int .i64 ((Qq l0 a0).f0), .int .i64 ((Qq l0 a0).f1), .slice a8 ((Qq l0 a0).f2).length a9] 45 (0, 0)) (by (with_reducible repeat (first | refine Zf ?_ _ | refine Zg ?_ | refine Zb ?_ _)); exact a2.out) hg (Kd.R_ne b2.out a2.out (by decide))); have n2_ := Qa.mk (Kd.R_after (ok := (fun k_ => some k_ ≠ (.slice d8 a4.length d2 : Value).ownBlock)) (by (with_reducible repeat (first | apply Kd.R_alloc | apply Kd.R_drewN | apply Kd.R_drew)); exact Kd.R_mono b3.out (fun _ hk => ⟨hk.1.2, hk.2⟩)) hg hat); have n3_ := Qa.mk (hb); have n4_ := Qa.mk ((show Kd.C Kd.string w38 A36 d3.length d3 from by rw [e8.out, KA36.out]; exact Kd.C_mid (lo := (((Qq l0 a0).f0) : Int).toNat) (hi := ((wrap64 (((Qq l0 a0).f0) + (a6.length : Int))) : Int).toNat) (c := d2) ((Kd.R_reads' (Kd.R_after (ok := (fun k_ => some k_ ≠ (.slice d6 a6.length d7 : Value).ownBlock)) (by (with_reducible repeat (first | apply Kd.R_alloc | apply Kd.R_drewN | apply Kd.R_drew)); exact Kd.R_mono a5.out (fun _ hk => ⟨hk.2, hk.1⟩)) hg hat)).2.2) KM36.out KL36.out ((Kd.R_reads' (Kd.R_after (ok := (fun k_ => some k_ ≠ (.slice d6 a6.length d7 : Value).ownBlock)) (by (with_reducible repeat (first | apply Kd.R_alloc | apply Kd.R_drewN | apply Kd.R_drew)); exact Kd.R_mono a5.out (fun _ hk => ⟨hk.2, hk.1⟩)) hg hat)).2.1))); have n5_ := Qa.mk ((show Kd.C Kd.string w38 A37 b1.length b1 from by rw [g5.out, KA37.out]; exact Kd.C_mid (lo := (a7 : Int).toNat) (hi := (((Qq l0 a0).f0) : Int).toNat) (c := d2) ((Kd.R_reads' (Kd.R_after (ok := (fun k_ => some k_ ≠ (.slice d6 a6.length d7 : Value).ownBlock)) (by (with_reducible repeat (first | apply Kd.R_alloc | apply Kd.R_drewN | apply Kd.R_drew)); exact Kd.R_mono a5.out (fun _ hk => ⟨hk.2, hk.1⟩)) hg hat)).2.2) KM37.out KL37.out ((Kd.R_reads' (Kd.R_after (ok := (fun k_ => some k_ ≠ (.slice d6 a6.length d7 : Value).ownBlock)) (by (with_reducible repeat (first | apply Kd.R_alloc | apply Kd.R_drewN | apply Kd.R_drew)); exact Kd.R_mono a5.out (fun _ hk => ⟨hk.2, hk.1⟩)) hg hat)).2.1))); have n6_ := Qa.mk (ho); clear a5; clear a2; clear b3; clear HB; clear d4; clear d9; clear b2; have a5 := n0_; have a2 := n1_; have b3 := n2_; have HB := n3_; have d4 := n4_; have d9 := n5_; have e5 := n6_; clear n0_ n1_ n2_ n3_ n4_ n5_ n6_; clear ho hb hg hat; have o0 : w38.cell? ⟨a3, 0, none⟩ = some (.int .i64 ((Qq l0 a0).f0)) := (Ql a2.out 0).trans rfl; have o1 : w38.cell? ⟨a3, 1, none⟩ = some (.int .i64 ((Qq l0 a0).f1)) := (Ql a2.out 1).trans rfl; have o2 : w38.cell? ⟨a3, 2, none⟩ = some (.slice a8 ((Qq l0 a0).f2).length a9) := (Ql a2.out 2).trans rfl; have o3 := Qo a2.out 0; have o4 := Qo a2.out 1; have o5 := Qo a2.out 2) | ((with_reducible refine Zx (f := 21) rfl ?_); refine Yq (some 59) rfl rfl Tryz.func21 (by kernel_rfl) rfl #[.slice a8 ((Qq l0 a0).f2).length a9, .int .i64 2] rfl (by (try simp only [List.map_toArray, List.map_cons, List.map_nil]); first | done | rfl | (simp only [List.length_drop, List.length_take]; rfl)) ?_; (with_reducible refine (Zo.calls k1 _ _ ((Qq l0 a0).f2) 2 b0 _ ?side1 ?side2 A28.out).mono ?_); (case side1 => repeat (first | exact (Kd.C_below e1.out HB.out) | (with_reducible refine Kd.C_alloc ?_ _) | (with_reducible refine Kd.C_drewN ?_ _) | (with_reducible refine Kd.C_drew ?_))); (case side2 => exact e2.out); rintro e w40 ⟨s6, rfl, ho0, hb⟩; refine ⟨_, rfl, ?_⟩; have n0_ := Qa.mk (Kd.R_elder' (by (with_reducible repeat (first | apply Kd.R_alloc | apply Kd.R_drewN | apply Kd.R_drew)); exact a5.out) (Kd.R_base ho0) hb); have n1_ := Qa.mk (Kd.R_elder' (by (with_reducible repeat (first | apply Kd.R_alloc | apply Kd.R_drewN | apply Kd.R_drew)); exact b3.out) (Kd.R_base ho0) hb); have n2_ := Qa.mk (Kd.R_elder' (by (with_reducible repeat (first | apply Kd.R_alloc | apply Kd.R_drewN | apply Kd.R_drew)); exact e5.out) (Kd.R_base ho0) hb); have n3_ := Qa.mk (Kd.R_lower (Kd.R_new' (Kd.R_new' (Kd.R_new' ho0 (Kd.R_lt (by (with_reducible repeat (first | apply Kd.R_alloc | apply Kd.R_drewN | apply Kd.R_drew)); exact a5.out))) (Kd.R_lt (by (with_reducible repeat (first | apply Kd.R_alloc | apply Kd.R_drewN | apply Kd.R_drew)); exact b3.out))) (Kd.R_lt (by (with_reducible repeat (first | apply Kd.R_alloc | apply Kd.R_drewN | apply Kd.R_drew)); exact e5.out))) (Qh (by repeat (first | (with_reducible first | exact HB.out | apply Qc | apply Qb | apply Qd | refine Qu ?_ GE106.out) | exact HB.out)))); have n4_ := Qa.mk (Xt (g := a3) (o := .cells #[.int .i64 ((Qq l0 a0).f0), .int .i64 ((Qq l0 a0).f1), .slice a8 ((Qq l0 a0).f2).length a9] 45 (0, 0)) (by (with_reducible repeat (first | refine Zf ?_ _ | refine Zg ?_ | refine Zb ?_ _)); exact a2.out) hb); have n5_ := Qa.mk (Kd.C_below (by repeat (first | (with_reducible exact d4.out) | (with_reducible refine Kd.C_alloc ?_ _) | (with_reducible refine Kd.C_drewN ?_ _) | (with_reducible refine Kd.C_drew ?_) | exact d4.out)) hb); have n6_ := Qa.mk (Kd.C_below (by repeat (first | (with_reducible exact d9.out) | (with_reducible refine Kd.C_alloc ?_ _) | (with_reducible refine Kd.C_drewN ?_ _) | (with_reducible refine Kd.C_drew ?_) | exact d9.out)) hb); have n7_ := Qa.mk (Qk (by repeat (first | (with_reducible first | exact HB.out | apply Qc | apply Qb | apply Qd | refine Qu ?_ GE106.out) | exact HB.out)) hb); clear a5; clear b3; clear e5; clear a2; clear d4; clear d9; clear HB; have a5 := n0_; have b3 := n1_; have e5 := n2_; have e9 := n3_; have a2 := n4_; have d4 := n5_; have d9 := n6_; have HB := n7_; clear n0_ n1_ n2_ n3_ n4_ n5_ n6_ n7_; (try clear hb); (try clear hb2); (try clear hk); (try clear hi); (try clear ho0); obtain ⟨f4, f5, eo42⟩ := Kd.R_slice e9.out; subst eo42) | ((with_reducible refine Zj (b := .append) (xs := #[.tmp 56, .tmp 59]) rfl ?_); at_builtin; refine Kd.R_append_rows Kd.string (w0 := w) w.heap.size rfl (.tmp 56) (.tmp 59) 46 9 (.string ⟨#[]⟩) 16 rfl Tryz.underlying46 Vy rfl (by decide) (by omega) k6 b5 b0 _ _ _ (fun k_ => some k_ ≠ (.slice d8 a4.length d2 : Value).ownBlock ∧ some k_ ≠ (.slice d6 a6.length d7 : Value).ownBlock ∧ some k_ ≠ (.slice f4 b0.length f5 : Value).ownBlock) (fun _ => False) rfl rfl ?aO ?aR (fun _ _ h => h) (fun _ h => h.elim) ?aF ?aB ?aS ?aL ?_; (case aR => repeat (first | exact (Kd.R_reads' e9.out).2.2 | (with_reducible refine Kd.C_alloc ?_ _) | (with_reducible refine Kd.C_drewN ?_ _) | (with_reducible refine Kd.C_drew ?_))); (case aB => exact (by repeat (first | (with_reducible first | exact HB.out | apply Qc | apply Qb | apply Qd | refine Qu ?_ GE106.out) | exact HB.out))); (case aF => exact (fun k_ hk => ⟨Kd.fresh' (Kd.R_lt (by (with_reducible repeat (first | apply Kd.R_alloc | apply Kd.R_drewN | apply Kd.R_drew)); exact a5.out)) k_ hk, Kd.fresh' (Kd.R_lt (by (with_reducible repeat (first | apply Kd.R_alloc | apply Kd.R_drewN | apply Kd.R_drew)); exact b3.out)) k_ hk, Kd.fresh' (Kd.R_lt (by (with_reducible repeat (first | apply Kd.R_alloc | apply Kd.R_drewN | apply Kd.R_drew)); exact e9.out)) k_ hk⟩)); (case aO => exact (by (with_reducible repeat (first | apply Kd.R_alloc | apply Kd.R_drewN | apply Kd.R_drew)); exact Kd.R_mono e5.out (fun _ hk => ⟨hk.1.1, ⟨hk.1.2, hk.2⟩⟩))); (case aS => exact (Qh (by repeat (first | (with_reducible first | exact HB.out | apply Qc | apply Qb | apply Qd | refine Qu ?_ GE106.out) | exact HB.out)))); (case aL => have := j7.out; omega); intro s7 w41 ho hb hg hat; rw [← j8.out] at ho; have n0_ := Qa.mk (Kd.R_after (ok := (fun k_ => some k_ ≠ (.slice d6 a6.length d7 : Value).ownBlock ∧ some k_ ≠ (.slice f4 b0.length f5 : Value).ownBlock)) (by (with_reducible repeat (first | apply Kd.R_alloc | apply Kd.R_drewN | apply Kd.R_drew)); exact Kd.R_mono a5.out (fun _ hk => ⟨⟨hk.1.1, hk.2⟩, hk.1.2⟩)) hg hat); have n1_ := Qa.mk (Yv (g := a3) (o := .cells #[.int .i64 ((Qq l0 a0).f0), .int .i64 ((Qq l0 a0).f1), .slice a8 ((Qq l0 a0).f2).length a9] 45 (0, 0)) (by (with_reducible repeat (first | refine Zf ?_ _ | refine Zg ?_ | refine Zb ?_ _)); exact a2.out) hg (Kd.R_ne e5.out a2.out (by decide))); have n2_ := Qa.mk (Kd.R_after (ok := (fun k_ => some k_ ≠ (.slice d8 a4.length d2 : Value).ownBlock ∧ some k_ ≠ (.slice f4 b0.length f5 : Value).ownBlock)) (by (with_reducible repeat (first | apply Kd.R_alloc | apply Kd.R_drewN | apply Kd.R_drew)); exact Kd.R_mono b3.out (fun _ hk => ⟨⟨hk.1.1, hk.2⟩, hk.1.2⟩)) hg hat); have n3_ := Qa.mk (Kd.R_after (ok := (fun k_ => some k_ ≠ (.slice d8 a4.length d2 : Value).ownBlock ∧ some k_ ≠ (.slice d6 a6.length d7 : Value).ownBlock)) (by (with_reducible repeat (first | apply Kd.R_alloc | apply Kd.R_drewN | apply Kd.R_drew)); exact Kd.R_mono e9.out (fun _ hk => ⟨⟨hk.1.1.2, hk.1.2⟩, hk.2⟩)) hg hat); have n4_ := Qa.mk (hb); have n5_ := Qa.mk ((show Kd.C Kd.string w41 A36 d3.length d3 from by rw [e8.out, KA36.out]; exact Kd.C_mid (lo := (((Qq l0 a0).f0) : Int).toNat) (hi := ((wrap64 (((Qq l0 a0).f0) + (a6.length : Int))) : Int).toNat) (c := d2) ((Kd.R_reads' (Kd.R_after (ok := (fun k_ => some k_ ≠ (.slice d6 a6.length d7 : Value).ownBlock ∧ some k_ ≠ (.slice f4 b0.length f5 : Value).ownBlock)) (by (with_reducible repeat (first | apply Kd.R_alloc | apply Kd.R_drewN | apply Kd.R_drew)); exact Kd.R_mono a5.out (fun _ hk => ⟨⟨hk.1.1, hk.2⟩, hk.1.2⟩)) hg hat)).2.2) KM36.out KL36.out ((Kd.R_reads' (Kd.R_after (ok := (fun k_ => some k_ ≠ (.slice d6 a6.length d7 : Value).ownBlock ∧ some k_ ≠ (.slice f4 b0.length f5 : Value).ownBlock)) (by (with_reducible repeat (first | apply Kd.R_alloc | apply Kd.R_drewN | apply Kd.R_drew)); exact Kd.R_mono a5.out (fun _ hk => ⟨⟨hk.1.1, hk.2⟩, hk.1.2⟩)) hg hat)).2.1))); have n6_ := Qa.mk ((show Kd.C Kd.string w41 A37 b1.length b1 from by rw [g5.out, KA37.out]; exact Kd.C_mid (lo := (a7 : Int).toNat) (hi := (((Qq l0 a0).f0) : Int).toNat) (c := d2) ((Kd.R_reads' (Kd.R_after (ok := (fun k_ => some k_ ≠ (.slice d6 a6.length d7 : Value).ownBlock ∧ some k_ ≠ (.slice f4 b0.length f5 : Value).ownBlock)) (by (with_reducible repeat (first | apply Kd.R_alloc | apply Kd.R_drewN | apply Kd.R_drew)); exact Kd.R_mono a5.out (fun _ hk => ⟨⟨hk.1.1, hk.2⟩, hk.1.2⟩)) hg hat)).2.2) KM37.out KL37.out ((Kd.R_reads' (Kd.R_after (ok := (fun k_ => some k_ ≠ (.slice d6 a6.length d7 : Value).ownBlock ∧ some k_ ≠ (.slice f4 b0.length f5 : Value).ownBlock)) (by (with_reducible repeat (first | apply Kd.R_alloc | apply Kd.R_drewN | apply Kd.R_drew)); exact Kd.R_mono a5.out (fun _ hk => ⟨⟨hk.1.1, hk.2⟩, hk.1.2⟩)) hg hat)).2.1))); have n7_ := Qa.mk (ho); clear a5; clear a2; clear b3; clear e9; clear HB; clear d4; clear d9; clear e5; have a5 := n0_; have a2 := n1_; have b3 := n2_; have e9 := n3_; have HB := n4_; have d4 := n5_; have d9 := n6_; have j9 := n7_; clear n0_ n1_ n2_ n3_ n4_ n5_ n6_ n7_; clear ho hb hg hat))
                 go_roundg k1
                 case measure => have := HK1.out; omega
                 case rel => exact ⟨(i7), (wrap64 (((Qq l0 a0).f0) + (a6.length : Int))), (wrap64 (a0 + 1)), (by first | rfl | (simp; done) | (simp [*]; done)), (by first | rfl | (simp; done) | (simp [*]; done)), H', ⟨by have := HK1.out; omega⟩, ⟨by (with_reducible repeat (first | apply Kd.R_alloc | apply Kd.R_drewN | apply Kd.R_drew)); exact Kd.R_mono a5.out (fun _ hk => hk.2)⟩, ⟨by (with_reducible repeat (first | apply Kd.R_alloc | apply Kd.R_drewN | apply Kd.R_drew)); exact Kd.R_mono j9.out (fun _ hk => hk.1)⟩, ⟨by repeat (first | (with_reducible first | exact HB.out | apply Qc | apply Qb | apply Qd | refine Qu ?_ GE106.out) | exact HB.out)⟩⟩
                ·rw [if_neg c29] at H
                 exact absurd H (by simp)
               ·rw [if_neg c27] at H
                exact absurd H (by simp)
              ·rw [if_neg c26] at H
               exact absurd H (by simp)
             ·rw [if_neg c25] at H
              exact absurd H (by simp)
            ·rw [if_neg c24] at H
             exact absurd H (by simp)
           ·replace c23 := Bool.eq_false_iff.mpr c23
            subst c23
            have H1 : (some ((⟨#[]⟩ : ByteArray), 12, a0)) = some (r1, r2, r3) := by rw [if_neg (show ¬ (false = true) by decide)] at H; exact H
            clear H; have H := H1; clear H1
            simp only [Option.some.injEq, Prod.mk.injEq] at H
            obtain ⟨rfl, rfl, rfl⟩ := H; have e3 : 0 ≤ (a0 : Int) := of_decide_eq_true (by first | (with_reducible assumption) | assumption); have e4 : a0 < (l0.length : Int) := of_decide_eq_true (by first | (with_reducible assumption) | assumption); obtain ⟨h8, a8, a9, g6, b9, d0, d1, hl105_2, hi105_2⟩ := Qen HR0.out a0 e3 e4
            cases g6; replace b9 := (HB.out.cell (World.block_lt_of_cell? w _ b9)).trans b9; replace d0 := (HB.out.cell (World.block_lt_of_cell? w _ d0)).trans d0; replace d1 := (HB.out.cell (World.block_lt_of_cell? w _ d1)).trans d1; have e1 := Qa.mk hi105_2; have e2 := Qa.mk hl105_2; clear hi105_2 hl105_2; replace e3 := eq_true e3; replace e4 := eq_true e4; go_wp2_with (first | ((with_reducible refine Zs (N := 11) rfl ?_); refine Xd ?hg (N := 11) ?hd (cs := #[.int .i64 0, .int .i64 0, .slice none 0 0]) (t := 45) ?hr ?_; (case hd => rfl); (case hg => rfl); (case hr => first | (go_simp; done) | (go_simp; rfl)); intro a3 hg w43 hbox hb; have n0_ := Qa.mk (Kd.R_below (by (with_reducible repeat (first | apply Kd.R_alloc | apply Kd.R_drewN | apply Kd.R_drew)); exact a5.out) hb); have n1_ := Qa.mk (Kd.R_below (by (with_reducible repeat (first | apply Kd.R_alloc | apply Kd.R_drewN | apply Kd.R_drew)); exact b2.out) hb); have n2_ := Qa.mk (Qk (by repeat (first | (with_reducible first | exact HB.out | apply Qc | apply Qb | apply Qd) | exact HB.out)) hb); have n3_ := Qa.mk (hbox); have n4_ := Qa.mk ((by rw [hg]; exact (Qh (by repeat (first | (with_reducible first | exact HB.out | apply Qc | apply Qb | apply Qd) | exact HB.out))) : w.heap.size ≤ a3)); have n5_ := Qa.mk ((by rw [hg]; exact (Qh (by repeat (first | (with_reducible first | exact HB.out | apply Qc | apply Qb | apply Qd) | exact HB.out))) : w.heap.size ≤ a3)); clear a5; clear b2; clear HB; have a5 := n0_; have b2 := n1_; have HB := n2_; have a2 := n3_; have h9 := n4_; have GE106 := n5_; clear n0_ n1_ n2_ n3_ n4_ n5_; clear hb hbox hg; have o6 : w43.cell? ⟨a3, 0, none⟩ = some (.int .i64 0) := (Ql a2.out 0).trans rfl; have o7 : w43.cell? ⟨a3, 1, none⟩ = some (.int .i64 0) := (Ql a2.out 1).trans rfl; have o8 : w43.cell? ⟨a3, 2, none⟩ = some (.slice none 0 0) := (Ql a2.out 2).trans rfl; have o9 := Qo a2.out 0; have p0 := Qo a2.out 1; have p3 := Qo a2.out 2) | ((with_reducible refine Zx (f := 21) rfl ?_); refine Yq (some 28) rfl rfl Tryz.func21 (by kernel_rfl) rfl #[.slice a8 ((Qq l0 a0).f2).length a9, .int .i64 1] rfl (by (try simp only [List.map_toArray, List.map_cons, List.map_nil]); first | done | rfl | (simp only [List.length_drop, List.length_take]; rfl)) ?_; (with_reducible refine (Zo.calls k1 _ _ ((Qq l0 a0).f2) 1 a6 _ ?side1 ?side2 A11.out).mono ?_); (case side1 => exact Kd.C_below e1.out (by repeat (first | (with_reducible first | exact HB.out | apply Qc | apply Qb | apply Qd | refine Qu ?_ GE106.out) | exact HB.out))); (case side2 => exact e2.out); rintro e w45 ⟨i4, rfl, ho0, hb⟩; refine ⟨_, rfl, ?_⟩; have n0_ := Qa.mk (Kd.R_elder' (by (with_reducible repeat (first | apply Kd.R_alloc | apply Kd.R_drewN | apply Kd.R_drew)); exact (Kd.R_mono (Kd.R_far (p := ⟨a3, 2, none⟩) (Kd.R_far (p := ⟨a3, 1, none⟩) (Kd.R_far (p := ⟨a3, 0, none⟩) (Kd.R_types a5.out a2.out (by decide)) (fun _ hk => hk.2) (.int .i64 ((Qq l0 a0).f0))) (fun _ hk => hk.2) (.int .i64 ((Qq l0 a0).f1))) (fun _ hk => hk.2) (.slice a8 ((Qq l0 a0).f2).length a9)) (fun _ h_ => h_.1))) (Kd.R_base ho0) hb); have n1_ := Qa.mk (Kd.R_elder' (by (with_reducible repeat (first | apply Kd.R_alloc | apply Kd.R_drewN | apply Kd.R_drew)); exact (Kd.R_mono (Kd.R_far (p := ⟨a3, 2, none⟩) (Kd.R_far (p := ⟨a3, 1, none⟩) (Kd.R_far (p := ⟨a3, 0, none⟩) (Kd.R_types b2.out a2.out (by decide)) (fun _ hk => hk.2) (.int .i64 ((Qq l0 a0).f0))) (fun _ hk => hk.2) (.int .i64 ((Qq l0 a0).f1))) (fun _ hk => hk.2) (.slice a8 ((Qq l0 a0).f2).length a9)) (fun _ h_ => h_.1))) (Kd.R_base ho0) hb); have n2_ := Qa.mk (Kd.R_lower (Kd.R_new' (Kd.R_new' ho0 (Kd.R_lt (by (with_reducible repeat (first | apply Kd.R_alloc | apply Kd.R_drewN | apply Kd.R_drew)); exact (Kd.R_mono (Kd.R_far (p := ⟨a3, 2, none⟩) (Kd.R_far (p := ⟨a3, 1, none⟩) (Kd.R_far (p := ⟨a3, 0, none⟩) (Kd.R_types a5.out a2.out (by decide)) (fun _ hk => hk.2) (.int .i64 ((Qq l0 a0).f0))) (fun _ hk => hk.2) (.int .i64 ((Qq l0 a0).f1))) (fun _ hk => hk.2) (.slice a8 ((Qq l0 a0).f2).length a9)) (fun _ h_ => h_.1))))) (Kd.R_lt (by (with_reducible repeat (first | apply Kd.R_alloc | apply Kd.R_drewN | apply Kd.R_drew)); exact (Kd.R_mono (Kd.R_far (p := ⟨a3, 2, none⟩) (Kd.R_far (p := ⟨a3, 1, none⟩) (Kd.R_far (p := ⟨a3, 0, none⟩) (Kd.R_types b2.out a2.out (by decide)) (fun _ hk => hk.2) (.int .i64 ((Qq l0 a0).f0))) (fun _ hk => hk.2) (.int .i64 ((Qq l0 a0).f1))) (fun _ hk => hk.2) (.slice a8 ((Qq l0 a0).f2).length a9)) (fun _ h_ => h_.1))))) (Qh (by repeat (first | (with_reducible first | exact HB.out | apply Qc | apply Qb | apply Qd | refine Qu ?_ GE106.out) | exact HB.out)))); have n3_ := Qa.mk (Xt (g := a3) (o := .cells #[.int .i64 ((Qq l0 a0).f0), .int .i64 ((Qq l0 a0).f1), .slice a8 ((Qq l0 a0).f2).length a9] 45 (0, 0)) (by (with_reducible repeat (first | refine Zf ?_ _ | refine Zg ?_ | refine Zb ?_ _)); refine Zu (cs := #[.int .i64 ((Qq l0 a0).f0), .int .i64 ((Qq l0 a0).f1), .slice none 0 0]) ?_ 2 _ rfl; (with_reducible repeat (first | refine Zf ?_ _ | refine Zg ?_ | refine Zb ?_ _)); refine Zu (cs := #[.int .i64 ((Qq l0 a0).f0), .int .i64 0, .slice none 0 0]) ?_ 1 _ rfl; (with_reducible repeat (first | refine Zf ?_ _ | refine Zg ?_ | refine Zb ?_ _)); refine Zu (cs := #[.int .i64 0, .int .i64 0, .slice none 0 0]) ?_ 0 _ rfl; (with_reducible repeat (first | refine Zf ?_ _ | refine Zg ?_ | refine Zb ?_ _)); exact a2.out) hb); have n4_ := Qa.mk (Qk (by repeat (first | (with_reducible first | exact HB.out | apply Qc | apply Qb | apply Qd | refine Qu ?_ GE106.out) | exact HB.out)) hb); clear a5; clear b2; clear a2; clear HB; have a5 := n0_; have b2 := n1_; have b3 := n2_; have a2 := n3_; have HB := n4_; clear n0_ n1_ n2_ n3_ n4_; (try clear hb); (try clear hb2); (try clear hk); (try clear hi); (try clear ho0); have p4 : w45.cell? ⟨a3, 0, none⟩ = some (.int .i64 ((Qq l0 a0).f0)) := (Ql a2.out 0).trans rfl; have p5 : w45.cell? ⟨a3, 1, none⟩ = some (.int .i64 ((Qq l0 a0).f1)) := (Ql a2.out 1).trans rfl; have p6 : w45.cell? ⟨a3, 2, none⟩ = some (.slice a8 ((Qq l0 a0).f2).length a9) := (Ql a2.out 2).trans rfl; have p7 := Qo a2.out 0; have p8 := Qo a2.out 1; have p9 := Qo a2.out 2; obtain ⟨s8, s9, eo47⟩ := Kd.R_slice b3.out; subst eo47; obtain ⟨h4, g7, eo48⟩ := Kd.R_slice a5.out; subst eo48; have q49 : ((wrap64 (((Qq l0 a0).f0) + (a6.length : Int))) : Int) ≤ ((a4.length : Int) : Int) := of_decide_eq_true (by first | (with_reducible assumption) | assumption); obtain ⟨i049, hi049, _, hsz49, _⟩ := info_parts Vy; have hroom49 : a4.length ≤ g7 := (Kd.R_reads' a5.out).2.1; have hC49 : Kd.C Kd.string _ h4 a4.length a4 := (Kd.R_reads' a5.out).2.2; have ql49 : (((Qq l0 a0).f0) : Int) ≤ ((wrap64 (((Qq l0 a0).f0) + (a6.length : Int))) : Int) := of_decide_eq_true (by first | (with_reducible assumption) | assumption); have k7 : (0 : Int) ≤ (((Qq l0 a0).f0) : Int) := of_decide_eq_true (by first | (with_reducible assumption) | assumption); have hcut49 := Qch (P := Tryz.prog) 46 9 .i64 .i64 Tryz.underlying46 hi049 1 hsz49 h4 a4.length g7 ((Qq l0 a0).f0) (wrap64 (((Qq l0 a0).f0) + (a6.length : Int))) k7 ql49 q49 hroom49; have hr49 := Kd.C_mid (lo := (((Qq l0 a0).f0) : Int).toNat) (hi := ((wrap64 (((Qq l0 a0).f0) + (a6.length : Int))) : Int).toNat) (c := g7) hC49 (by omega) (by omega) hroom49; obtain ⟨A49, hA49⟩ : ∃ A1, A1 = (if g7 = (((Qq l0 a0).f0) : Int).toNat then h4 else (h4 : Option Addr).map (·.add ((((Qq l0 a0).f0) : Int).toNat * 1))) := ⟨_, rfl⟩; obtain ⟨c49, hc49⟩ : ∃ c1, c1 = g7 - (((Qq l0 a0).f0) : Int).toNat := ⟨_, rfl⟩; have h5 : d3.length = ((wrap64 (((Qq l0 a0).f0) + (a6.length : Int))) : Int).toNat - (((Qq l0 a0).f0) : Int).toNat := (by rw [e8.out, List.length_drop, List.length_take] <;> omega); rw [show ((a4).take ((wrap64 (((Qq l0 a0).f0) + (a6.length : Int))) : Int).toNat).drop (((Qq l0 a0).f0) : Int).toNat = d3 from e8.out.symm] at hr49; replace hr49 : Kd.C Kd.string _ A49 d3.length d3 := (by rw [hA49]; exact hr49); rw [← h5, ← hA49, ← hc49] at hcut49; have d4 := Qa.mk hr49; have h2 := Qa.mk (show d3.length ≤ c49 from by rw [h5, hc49]; exact Nat.sub_le_sub_right (Nat.le_trans (by omega) hroom49) _); clear hr49 hC49 hroom49 hi049 hsz49 hc49; have KY49 := Qa.mk h5; have KA49 := Qa.mk hA49; clear h5 hA49; have KL49 := Qa.mk (show ((wrap64 (((Qq l0 a0).f0) + (a6.length : Int))) : Int).toNat ≤ a4.length from by omega); have KM49 := Qa.mk (show (((Qq l0 a0).f0) : Int).toNat ≤ ((wrap64 (((Qq l0 a0).f0) + (a6.length : Int))) : Int).toNat from by omega); replace q49 := eq_true q49) | (go_at_call 22; (with_reducible refine (Qm.calls k1 _ _ d3 _ _ a6 false _ ?side1 ?side2 ?side3 ?side4 A22.out).mono ?_); (case side1 => repeat (first | exact (by repeat (first | (with_reducible exact d4.out) | (with_reducible refine Kd.C_alloc ?_ _) | (with_reducible refine Kd.C_drewN ?_ _) | (with_reducible refine Kd.C_drew ?_) | exact d4.out)) | (with_reducible refine Kd.C_alloc ?_ _) | (with_reducible refine Kd.C_drewN ?_ _) | (with_reducible refine Kd.C_drew ?_))); (case side2 => exact h2.out); (case side3 => repeat (first | exact (Kd.R_reads' b3.out).2.2 | (with_reducible refine Kd.C_alloc ?_ _) | (with_reducible refine Kd.C_drewN ?_ _) | (with_reducible refine Kd.C_drew ?_))); (case side4 => exact (Kd.R_reads' b3.out).2.1); rintro e w' ⟨rfl, ⟨nd, rfl⟩⟩))
            go_ret3
            exact ⟨by first | rfl | (simp [Qz, Za] <;> rfl) | (simp [*, Qz, Za] <;> rfl), by repeat (first | (with_reducible first | exact HB.out | apply Qc | apply Qb | apply Qd | refine Qu ?_ GE106.out) | exact HB.out)⟩
          ·rw [if_neg c21] at H
           exact absurd H (by simp)
         ·rw [if_neg c20] at H
          exact absurd H (by simp)
        ·rw [if_neg c19] at H
         exact absurd H (by simp)
      ·rw [if_neg c10] at H
       exact absurd H (by simp)
     ·rw [if_neg c9] at H
      exact absurd H (by simp)
    ·rw [if_neg c8] at H
     have k2 : decide (a0 < (l0.length : Int)) = false := decide_eq_false c8; clear c8
     by_cases c50 : 0 ≤ a7
     ·rw [if_pos c50] at H
      have r7 := eq_true c50; have r8 : decide (0 ≤ a7) = true := decide_eq_true c50; clear c50
      by_cases c51 : a7 ≤ (a4.length : Int)
      ·rw [if_pos c51] at H
       have r9 := eq_true c51; have s0 : decide (a7 ≤ (a4.length : Int)) = true := decide_eq_true c51; clear c51; obtain ⟨b6, g2⟩ : ∃ y_ : List ByteArray, y_ = (a4.drop (a7 : Int).toNat) := ⟨_, rfl⟩
       replace H : (if b8.length + b6.length < 8796093022208 then ((some (b8 ++ b6 : List ByteArray)).bind fun d5 => ((Zk.f k1 d5).bind fun e7 => (if e7 = true then ((Xn.f k1 d5).bind fun e0 => (some (e0, 0, (-1)))) else (some ((⟨#[]⟩ : ByteArray), 12, wrap64 ((l0.length : Int) - 1)))))) else (none)) = some (r1, r2, r3) := by first | (rw [g2]; with_reducible exact H) | (have H2_ := (Option.bind_some _ _).symm.trans H; rw [g2]; with_reducible exact H2_) | (have H2_ := (Option.bind_some _ _).symm.trans H; with_reducible exact H2_) | with_reducible exact H | (rw [g2]; exact H) | exact H
       have f3 := Qa.mk g2; clear g2
       by_cases c52 : b8.length + b6.length < 8796093022208
       ·rw [if_pos c52] at H
        have i0 := Qa.mk c52; clear c52; obtain ⟨d5, g3⟩ : ∃ y_ : List ByteArray, y_ = (b8 ++ b6) := ⟨_, rfl⟩
        replace H : ((Zk.f k1 d5).bind fun e7 => (if e7 = true then ((Xn.f k1 d5).bind fun e0 => (some (e0, 0, (-1)))) else (some ((⟨#[]⟩ : ByteArray), 12, wrap64 ((l0.length : Int) - 1))))) = some (r1, r2, r3) := by first | (rw [g3]; with_reducible exact H) | (have H2_ := (Option.bind_some _ _).symm.trans H; rw [g3]; with_reducible exact H2_) | (have H2_ := (Option.bind_some _ _).symm.trans H; with_reducible exact H2_) | with_reducible exact H | (rw [g3]; exact H) | exact H
        have i1 := Qa.mk g3; clear g3; replace H := Option.bind_eq_some_iff.mp H; obtain ⟨e7, i8, H⟩ := H; replace H : (if e7 = true then ((Xn.f k1 d5).bind fun e0 => (some (e0, 0, (-1)))) else (some ((⟨#[]⟩ : ByteArray), 12, wrap64 ((l0.length : Int) - 1)))) = some (r1, r2, r3) := H; have A53 := Qa.mk i8; clear i8
        by_cases c54 : e7 = true
        ·subst c54
         have H1 : ((Xn.f k1 d5).bind fun e0 => (some (e0, 0, (-1)))) = some (r1, r2, r3) := by rw [if_pos rfl] at H; exact H
         clear H; have H := H1; clear H1; replace H := Option.bind_eq_some_iff.mp H; obtain ⟨e0, i9, H⟩ := H; replace H : (some (e0, 0, (-1))) = some (r1, r2, r3) := H; have A55 := Qa.mk i9; clear i9
         simp only [Option.some.injEq, Prod.mk.injEq] at H
         obtain ⟨rfl, rfl, rfl⟩ := H; obtain ⟨g8, f6, eo57⟩ := Kd.R_slice a5.out; subst eo57; have q56 : (a7 : Int) ≤ ((a4.length : Int) : Int) := of_decide_eq_true (by first | (with_reducible assumption) | assumption); obtain ⟨i056, hi056, _, hsz56, _⟩ := info_parts Vy; have hroom56 : a4.length ≤ f6 := (Kd.R_reads' a5.out).2.1; have hC56 : Kd.C Kd.string _ g8 a4.length a4 := (Kd.R_reads' a5.out).2.2; have k8 : (0 : Int) ≤ (a7 : Int) := of_decide_eq_true (by first | (with_reducible assumption) | assumption); have hcut56 := Qet (P := Tryz.prog) 46 9 .i64 Tryz.underlying46 hi056 1 hsz56 g8 a4.length f6 a7 k8 q56; have hr56 := Kd.C_drop (m := (a7 : Int).toNat) (c := f6) hC56 (by omega) hroom56; obtain ⟨A56, hA56⟩ : ∃ A1, A1 = (if f6 = (a7 : Int).toNat then g8 else (g8 : Option Addr).map (·.add ((a7 : Int).toNat * 1))) := ⟨_, rfl⟩; obtain ⟨c56, hc56⟩ : ∃ c1, c1 = f6 - (a7 : Int).toNat := ⟨_, rfl⟩; have h6 : b6.length = a4.length - (a7 : Int).toNat := (by rw [f3.out, List.length_drop] <;> omega)
         rw [show (a4).drop (a7 : Int).toNat = b6 from f3.out.symm] at hr56
         replace hr56 : Kd.C Kd.string _ A56 b6.length b6 := (by rw [hA56]; exact hr56)
         rw [← h6, ← hA56, ← hc56] at hcut56
         have b4 := Qa.mk hr56; have k0 := Qa.mk (show b6.length ≤ c56 from by rw [h6, hc56]; exact Nat.sub_le_sub_right hroom56 _); clear hr56 hC56 hroom56 hi056 hsz56 hc56; have KY56 := Qa.mk h6; have KA56 := Qa.mk hA56; clear h6 hA56; have KL56 := Qa.mk (show (a7 : Int).toNat ≤ a4.length from by omega); replace q56 := eq_true q56; go_wp2_with (first | ((with_reducible refine Zj (b := .append) (xs := #[.tmp 63, .tmp 66]) rfl ?_); at_builtin; refine Kd.R_append_rows Kd.string (w0 := w) w.heap.size rfl (.tmp 63) (.tmp 66) 46 9 (.string ⟨#[]⟩) 16 rfl Tryz.underlying46 Vy rfl (by decide) (by omega) u8 b8 b6 _ _ _ (fun k_ => some k_ ≠ (.slice g8 a4.length f6 : Value).ownBlock) (fun _ => False) rfl rfl ?aO ?aR (fun _ _ h => h) (fun _ h => h.elim) ?aF ?aB ?aS ?aL ?_; (case aR => repeat (first | exact (by repeat (first | (with_reducible exact b4.out) | (with_reducible refine Kd.C_alloc ?_ _) | (with_reducible refine Kd.C_drewN ?_ _) | (with_reducible refine Kd.C_drew ?_) | exact b4.out)) | (with_reducible refine Kd.C_alloc ?_ _) | (with_reducible refine Kd.C_drewN ?_ _) | (with_reducible refine Kd.C_drew ?_))); (case aB => exact (by repeat (first | (with_reducible first | exact HB.out | apply Qc | apply Qb | apply Qd) | exact HB.out))); (case aF => exact (fun k_ hk => Kd.fresh' (Kd.R_lt (by (with_reducible repeat (first | apply Kd.R_alloc | apply Kd.R_drewN | apply Kd.R_drew)); exact a5.out)) k_ hk)); (case aO => exact (by (with_reducible repeat (first | apply Kd.R_alloc | apply Kd.R_drewN | apply Kd.R_drew)); exact b2.out)); (case aS => exact (Qh (by repeat (first | (with_reducible first | exact HB.out | apply Qc | apply Qb | apply Qd) | exact HB.out)))); (case aL => have := i0.out; omega); intro k9 w58 ho hb hg hat; rw [← i1.out] at ho; have n0_ := Qa.mk (Kd.R_after (ok := (fun _ => True)) (by (with_reducible repeat (first | apply Kd.R_alloc | apply Kd.R_drewN | apply Kd.R_drew)); exact Kd.R_mono a5.out (fun _ hk => ⟨trivial, hk⟩)) hg hat); have n1_ := Qa.mk (hb); have n2_ := Qa.mk ((show Kd.C Kd.string w58 A56 b6.length b6 from by rw [f3.out, KA56.out]; exact Kd.C_drop (m := (a7 : Int).toNat) (c := f6) ((Kd.R_reads' (Kd.R_after (ok := (fun _ => True)) (by (with_reducible repeat (first | apply Kd.R_alloc | apply Kd.R_drewN | apply Kd.R_drew)); exact Kd.R_mono a5.out (fun _ hk => ⟨trivial, hk⟩)) hg hat)).2.2) KL56.out ((Kd.R_reads' (Kd.R_after (ok := (fun _ => True)) (by (with_reducible repeat (first | apply Kd.R_alloc | apply Kd.R_drewN | apply Kd.R_drew)); exact Kd.R_mono a5.out (fun _ hk => ⟨trivial, hk⟩)) hg hat)).2.1))); have n3_ := Qa.mk (ho); clear a5; clear HB; clear b4; clear b2; have a5 := n0_; have HB := n1_; have b4 := n2_; have b7 := n3_; clear n0_ n1_ n2_ n3_; clear ho hb hg hat; obtain ⟨j0, j2, eo59⟩ := Kd.R_slice b7.out; subst eo59) | ((with_reducible refine Zx (f := 23) rfl ?_); refine Yq (some 69) rfl rfl Tryz.func23 (by kernel_rfl) rfl #[.slice j0 d5.length j2] rfl (by (try simp only [List.map_toArray, List.map_cons, List.map_nil]); first | done | rfl | (simp only [List.length_drop, List.length_take]; rfl)) ?_; (with_reducible refine (Zk.calls k1 _ _ d5 true _ ?side1 ?side2 A53.out).mono ?_); (case side1 => repeat (first | exact (Kd.R_reads' b7.out).2.2 | (with_reducible refine Kd.C_alloc ?_ _) | (with_reducible refine Kd.C_drewN ?_ _) | (with_reducible refine Kd.C_drew ?_))); (case side2 => exact (Kd.R_reads' b7.out).2.1); rintro e w60 ⟨rfl, hb⟩; refine ⟨_, rfl, ?_⟩; have n0_ := Qa.mk (Kd.R_below (by (with_reducible repeat (first | apply Kd.R_alloc | apply Kd.R_drewN | apply Kd.R_drew)); exact a5.out) hb); have n1_ := Qa.mk (Kd.R_below (by (with_reducible repeat (first | apply Kd.R_alloc | apply Kd.R_drewN | apply Kd.R_drew)); exact b7.out) hb); have n2_ := Qa.mk (Kd.C_below (by repeat (first | (with_reducible exact b4.out) | (with_reducible refine Kd.C_alloc ?_ _) | (with_reducible refine Kd.C_drewN ?_ _) | (with_reducible refine Kd.C_drew ?_) | exact b4.out)) hb); have n3_ := Qa.mk (Qk (by repeat (first | (with_reducible first | exact HB.out | apply Qc | apply Qb | apply Qd) | exact HB.out)) hb); clear a5; clear b7; clear b4; clear HB; have a5 := n0_; have b7 := n1_; have b4 := n2_; have HB := n3_; clear n0_ n1_ n2_ n3_; (try clear hb); (try clear hb2); (try clear hk); (try clear hi)) | ((with_reducible refine Zx (f := 24) rfl ?_); refine Yq (some 75) rfl rfl Tryz.func24 (by kernel_rfl) rfl #[.slice j0 d5.length j2] rfl (by (try simp only [List.map_toArray, List.map_cons, List.map_nil]); first | done | rfl | (simp only [List.length_drop, List.length_take]; rfl)) ?_; (with_reducible refine (Xn.calls k1 _ _ d5 e0 _ ?side1 ?side2 A55.out).mono ?_); (case side1 => repeat (first | exact (Kd.R_reads' b7.out).2.2 | (with_reducible refine Kd.C_alloc ?_ _) | (with_reducible refine Kd.C_drewN ?_ _) | (with_reducible refine Kd.C_drew ?_))); (case side2 => exact (Kd.R_reads' b7.out).2.1); rintro e w61 ⟨rfl, hb⟩; refine ⟨_, rfl, ?_⟩; have n0_ := Qa.mk (Kd.R_below (by (with_reducible repeat (first | apply Kd.R_alloc | apply Kd.R_drewN | apply Kd.R_drew)); exact a5.out) hb); have n1_ := Qa.mk (Kd.R_below (by (with_reducible repeat (first | apply Kd.R_alloc | apply Kd.R_drewN | apply Kd.R_drew)); exact b7.out) hb); have n2_ := Qa.mk (Kd.C_below (by repeat (first | (with_reducible exact b4.out) | (with_reducible refine Kd.C_alloc ?_ _) | (with_reducible refine Kd.C_drewN ?_ _) | (with_reducible refine Kd.C_drew ?_) | exact b4.out)) hb); have n3_ := Qa.mk (Qk (by repeat (first | (with_reducible first | exact HB.out | apply Qc | apply Qb | apply Qd) | exact HB.out)) hb); clear a5; clear b7; clear b4; clear HB; have a5 := n0_; have b7 := n1_; have b4 := n2_; have HB := n3_; clear n0_ n1_ n2_ n3_; (try clear hb); (try clear hb2); (try clear hk); (try clear hi)))
         go_ret3
         exact ⟨by first | rfl | (simp [Qz, Za] <;> rfl) | (simp [*, Qz, Za] <;> rfl), by repeat (first | (with_reducible first | exact HB.out | apply Qc | apply Qb | apply Qd) | exact HB.out)⟩
        ·replace c54 := Bool.eq_false_iff.mpr c54
         subst c54
         have H1 : (some ((⟨#[]⟩ : ByteArray), 12, wrap64 ((l0.length : Int) - 1))) = some (r1, r2, r3) := by rw [if_neg (show ¬ (false = true) by decide)] at H; exact H
         clear H; have H := H1; clear H1
         simp only [Option.some.injEq, Prod.mk.injEq] at H
         obtain ⟨rfl, rfl, rfl⟩ := H; obtain ⟨g9, f7, eo63⟩ := Kd.R_slice a5.out; subst eo63; have q62 : (a7 : Int) ≤ ((a4.length : Int) : Int) := of_decide_eq_true (by first | (with_reducible assumption) | assumption); obtain ⟨i062, hi062, _, hsz62, _⟩ := info_parts Vy; have hroom62 : a4.length ≤ f7 := (Kd.R_reads' a5.out).2.1; have hC62 : Kd.C Kd.string _ g9 a4.length a4 := (Kd.R_reads' a5.out).2.2; have l3 : (0 : Int) ≤ (a7 : Int) := of_decide_eq_true (by first | (with_reducible assumption) | assumption); have hcut62 := Qet (P := Tryz.prog) 46 9 .i64 Tryz.underlying46 hi062 1 hsz62 g9 a4.length f7 a7 l3 q62; have hr62 := Kd.C_drop (m := (a7 : Int).toNat) (c := f7) hC62 (by omega) hroom62; obtain ⟨A62, hA62⟩ : ∃ A1, A1 = (if f7 = (a7 : Int).toNat then g9 else (g9 : Option Addr).map (·.add ((a7 : Int).toNat * 1))) := ⟨_, rfl⟩; obtain ⟨c62, hc62⟩ : ∃ c1, c1 = f7 - (a7 : Int).toNat := ⟨_, rfl⟩; have h7 : b6.length = a4.length - (a7 : Int).toNat := (by rw [f3.out, List.length_drop] <;> omega)
         rw [show (a4).drop (a7 : Int).toNat = b6 from f3.out.symm] at hr62
         replace hr62 : Kd.C Kd.string _ A62 b6.length b6 := (by rw [hA62]; exact hr62)
         rw [← h7, ← hA62, ← hc62] at hcut62
         have b4 := Qa.mk hr62; have k0 := Qa.mk (show b6.length ≤ c62 from by rw [h7, hc62]; exact Nat.sub_le_sub_right hroom62 _); clear hr62 hC62 hroom62 hi062 hsz62 hc62; have KY62 := Qa.mk h7; have KA62 := Qa.mk hA62; clear h7 hA62; have KL62 := Qa.mk (show (a7 : Int).toNat ≤ a4.length from by omega); replace q62 := eq_true q62; go_wp2_with (first | ((with_reducible refine Zj (b := .append) (xs := #[.tmp 63, .tmp 66]) rfl ?_); at_builtin; refine Kd.R_append_rows Kd.string (w0 := w) w.heap.size rfl (.tmp 63) (.tmp 66) 46 9 (.string ⟨#[]⟩) 16 rfl Tryz.underlying46 Vy rfl (by decide) (by omega) u8 b8 b6 _ _ _ (fun k_ => some k_ ≠ (.slice g9 a4.length f7 : Value).ownBlock) (fun _ => False) rfl rfl ?aO ?aR (fun _ _ h => h) (fun _ h => h.elim) ?aF ?aB ?aS ?aL ?_; (case aR => repeat (first | exact (by repeat (first | (with_reducible exact b4.out) | (with_reducible refine Kd.C_alloc ?_ _) | (with_reducible refine Kd.C_drewN ?_ _) | (with_reducible refine Kd.C_drew ?_) | exact b4.out)) | (with_reducible refine Kd.C_alloc ?_ _) | (with_reducible refine Kd.C_drewN ?_ _) | (with_reducible refine Kd.C_drew ?_))); (case aB => exact (by repeat (first | (with_reducible first | exact HB.out | apply Qc | apply Qb | apply Qd) | exact HB.out))); (case aF => exact (fun k_ hk => Kd.fresh' (Kd.R_lt (by (with_reducible repeat (first | apply Kd.R_alloc | apply Kd.R_drewN | apply Kd.R_drew)); exact a5.out)) k_ hk)); (case aO => exact (by (with_reducible repeat (first | apply Kd.R_alloc | apply Kd.R_drewN | apply Kd.R_drew)); exact b2.out)); (case aS => exact (Qh (by repeat (first | (with_reducible first | exact HB.out | apply Qc | apply Qb | apply Qd) | exact HB.out)))); (case aL => have := i0.out; omega); intro k9 w64 ho hb hg hat; rw [← i1.out] at ho; have n0_ := Qa.mk (Kd.R_after (ok := (fun _ => True)) (by (with_reducible repeat (first | apply Kd.R_alloc | apply Kd.R_drewN | apply Kd.R_drew)); exact Kd.R_mono a5.out (fun _ hk => ⟨trivial, hk⟩)) hg hat); have n1_ := Qa.mk (hb); have n2_ := Qa.mk ((show Kd.C Kd.string w64 A62 b6.length b6 from by rw [f3.out, KA62.out]; exact Kd.C_drop (m := (a7 : Int).toNat) (c := f7) ((Kd.R_reads' (Kd.R_after (ok := (fun _ => True)) (by (with_reducible repeat (first | apply Kd.R_alloc | apply Kd.R_drewN | apply Kd.R_drew)); exact Kd.R_mono a5.out (fun _ hk => ⟨trivial, hk⟩)) hg hat)).2.2) KL62.out ((Kd.R_reads' (Kd.R_after (ok := (fun _ => True)) (by (with_reducible repeat (first | apply Kd.R_alloc | apply Kd.R_drewN | apply Kd.R_drew)); exact Kd.R_mono a5.out (fun _ hk => ⟨trivial, hk⟩)) hg hat)).2.1))); have n3_ := Qa.mk (ho); clear a5; clear HB; clear b4; clear b2; have a5 := n0_; have HB := n1_; have b4 := n2_; have b7 := n3_; clear n0_ n1_ n2_ n3_; clear ho hb hg hat; obtain ⟨l4, l5, eo65⟩ := Kd.R_slice b7.out; subst eo65) | ((with_reducible refine Zx (f := 23) rfl ?_); refine Yq (some 69) rfl rfl Tryz.func23 (by kernel_rfl) rfl #[.slice l4 d5.length l5] rfl (by (try simp only [List.map_toArray, List.map_cons, List.map_nil]); first | done | rfl | (simp only [List.length_drop, List.length_take]; rfl)) ?_; (with_reducible refine (Zk.calls k1 _ _ d5 false _ ?side1 ?side2 A53.out).mono ?_); (case side1 => repeat (first | exact (Kd.R_reads' b7.out).2.2 | (with_reducible refine Kd.C_alloc ?_ _) | (with_reducible refine Kd.C_drewN ?_ _) | (with_reducible refine Kd.C_drew ?_))); (case side2 => exact (Kd.R_reads' b7.out).2.1); rintro e w66 ⟨rfl, hb⟩; refine ⟨_, rfl, ?_⟩; have n0_ := Qa.mk (Kd.R_below (by (with_reducible repeat (first | apply Kd.R_alloc | apply Kd.R_drewN | apply Kd.R_drew)); exact a5.out) hb); have n1_ := Qa.mk (Kd.R_below (by (with_reducible repeat (first | apply Kd.R_alloc | apply Kd.R_drewN | apply Kd.R_drew)); exact b7.out) hb); have n2_ := Qa.mk (Kd.C_below (by repeat (first | (with_reducible exact b4.out) | (with_reducible refine Kd.C_alloc ?_ _) | (with_reducible refine Kd.C_drewN ?_ _) | (with_reducible refine Kd.C_drew ?_) | exact b4.out)) hb); have n3_ := Qa.mk (Qk (by repeat (first | (with_reducible first | exact HB.out | apply Qc | apply Qb | apply Qd) | exact HB.out)) hb); clear a5; clear b7; clear b4; clear HB; have a5 := n0_; have b7 := n1_; have b4 := n2_; have HB := n3_; clear n0_ n1_ n2_ n3_; (try clear hb); (try clear hb2); (try clear hk); (try clear hi)))
         go_ret3
         exact ⟨by first | rfl | (simp [Qz, Za] <;> rfl) | (simp [*, Qz, Za] <;> rfl), by repeat (first | (with_reducible first | exact HB.out | apply Qc | apply Qb | apply Qd) | exact HB.out)⟩
       ·rw [if_neg c52] at H
        exact absurd H (by simp)
      ·rw [if_neg c51] at H
       exact absurd H (by simp)
     ·rw [if_neg c50] at H
      exact absurd H (by simp)
 ·replace c4 := Bool.eq_false_iff.mpr c4
  subst c4
  have H1 : (some ((⟨#[]⟩ : ByteArray), 11, (-1))) = some (r1, r2, r3) := by rw [if_neg (show ¬ (false = true) by decide)] at H; exact H
  clear H; have H := H1; clear H1
  simp only [Option.some.injEq, Prod.mk.injEq] at H
  obtain ⟨rfl, rfl, rfl⟩ := H
  go_enter Tryz.func9, Tryz.ntmps9
  go_wp2_with (first | ((with_reducible refine Zx (f := 19) rfl ?_); refine Yq (some 15) rfl rfl Tryz.func19 (by kernel_rfl) rfl #[.slice A0 l0.length c0] rfl (by (try simp only [List.map_toArray, List.map_cons, List.map_nil]); first | done | rfl | (simp only [List.length_drop, List.length_take]; rfl)) ?_; (with_reducible refine (Xh.calls k _ _ l0 false _ ?side1 ?side2 A3.out).mono ?_); (case side1 => repeat (first | exact HR0.out | (with_reducible refine Kd.C_alloc ?_ _) | (with_reducible refine Kd.C_drewN ?_ _) | (with_reducible refine Kd.C_drew ?_))); (case side2 => exact HC0.out); rintro e w67 ⟨rfl, hb⟩; refine ⟨_, rfl, ?_⟩; have n0_ := Qa.mk (Qk (by repeat (first | (with_reducible first | exact HB.out | apply Qc | apply Qb | apply Qd) | exact HB.out)) hb); clear HB; have HB := n0_; clear n0_; (try clear hb); (try clear hb2); (try clear hk); (try clear hi)))
  go_ret3
  exact ⟨by first | rfl | (simp [Qz, Za] <;> rfl) | (simp [*, Qz, Za] <;> rfl), by repeat (first | (with_reducible first | exact HB.out | apply Qc | apply Qb | apply Qd) | exact HB.out)⟩
end Go.Proofs.YtadafplbgophfaaGreatDoor.PA
end
section
namespace Go.Proofs.YtadafplbgophfaaGreatDoor.PA
open Go.RowKit Go.Proofs.YtadafplbgophfaaGreatDoorW.PrintWords Go.Proofs.YtadafplbgophfaaGreatDoorW.PrintLast Go.Proofs.YtadafplbgophfaaGreatDoorW.PrintMore
open Jdg
namespace FavT
theorem Qle (m : List S68) {a b : Nat} (h : a ≤ b) : m.take b = m.take a ++ seg m a b := by
 unfold seg
 conv => lhs; rw [← List.take_append_drop a (m.take b)]
 rw [List.take_take, Nat.min_eq_left h]
theorem Qfj (q : Int) (m : List S68) (b : Nat) : sd q m = sd q (m.take b) ++ sd q (m.drop b) := by rw [← Ks, List.take_append_drop]
theorem Qan (q : Int) (m : List S68) {a b : Nat} (h : a ≤ b) : sd q (m.take b) = sd q (m.take a) ++ sd q (seg m a b) := by rw [Qle m h, Ks]
theorem Qgp (m : List S68) {a b : Nat} (h : a ≤ b) : m = m.take a ++ seg m a b ++ m.drop b := by rw [← Qle m h, List.take_append_drop]
theorem Ju {m : List S68} {i : Nat} (h : i < m.length) : (Yi m).getD i true = decide (m[i].f0 = 0) := by
 have hl : i < (Yi m).length := by rw [Yw]; exact h
 rw [List.getD_eq_getElem?_getD, List.getElem?_eq_getElem hl]
 simp [Yi]
theorem Qee {m : List S68} {a b : Nat} (hb : b ≤ m.length) : (seg m a b).length = b - a := by unfold seg; rw [List.length_drop, List.length_take]; omega
theorem Qkh {m : List S68} {a b j : Nat} (hb : b ≤ m.length) (h : j < (seg m a b).length) : (seg m a b)[j] = m[a + j]'(by rw [Qee hb] at h; omega) := by simp [seg]
theorem Qio {m : List S68} {i : Nat} (h : i < m.length) : m[i] ∈ m.drop i := by rw [List.drop_eq_getElem_cons h]; exact List.mem_cons_self ..
theorem Ue {m : List S68} {a b : Nat} {x : S68} (h : x ∈ seg m a b) (hb : b ≤ m.length) : ∃ i, a ≤ i ∧ i < b ∧ ∃ hi : i < m.length, x = m[i] := by
 obtain ⟨j, hj, rfl⟩ := List.getElem_of_mem h
 have hj2 : j < b - a := by rw [Qee hb] at hj; exact hj
 exact ⟨a + j, by omega, by omega, by omega, Qkh hb hj⟩
theorem Qgz {m : List S68} {a b i : Nat} (h1 : a ≤ i) (h2 : i < b) (hi : i < m.length) (hb : b ≤ m.length) : m[i] ∈ seg m a b := by
 obtain ⟨j, rfl⟩ : ∃ j, i = a + j := ⟨i - a, by omega⟩
 have hj : j < (seg m a b).length := by rw [Qee hb]; omega
 rw [← Qkh hb hj]; exact List.getElem_mem hj
theorem Qii {m : List S68} {a b : Nat} (hb : b ≤ m.length) (h : ∀ i, a ≤ i → i < b → (Yi m).getD i true = true) : ∀ x ∈ seg m a b, x.f0 = 0 := fun x hx => by
 obtain ⟨i, h1, h2, hi, rfl⟩ := Ue hx hb; have := h i h1 h2
 rw [Ju hi] at this
 exact of_decide_eq_true this
theorem Qge {m : List S68} {a : Nat} (h : ∀ i, a ≤ i → i < (Yi m).length → (Yi m).getD i true = true) : ∀ x ∈ m.drop a, x.f0 = 0 := fun x hx => by
 obtain ⟨j, hj, rfl⟩ := List.getElem_of_mem hx
 rw [List.length_drop] at hj
 have := h (a + j) (by omega) (by rw [Yw]; omega)
 rw [Ju (by omega)] at this
 rw [List.getElem_drop]; exact of_decide_eq_true this
structure Qas (m : List S68) : Prop where
 kinds : ∀ y ∈ m, 0 ≤ y.f0 ∧ y.f0 ≤ 2
 up : Qbo m
 few : m.length ≤ 100000
 ok : ∀ q, q = 1 ∨ q = 2 → ∀ x ∈ sd q m, Qfd x
 small : ∀ q, q = 1 ∨ q = 2 → ∀ x ∈ sd q m, x.size ≤ 1000000
 full : ∀ q, q = 1 ∨ q = 2 → ∀ x ∈ (sd q m).dropLast, full x
theorem Qmw {α : Type} {F : α → Prop} {p q r : List α} (h : ∀ x ∈ (p ++ q ++ r).dropLast, F x) : (∀ x ∈ q.dropLast, F x) ∧ (r ≠ [] → ∀ x ∈ q, F x) := by
 by_cases hr : r = []
 ·subst hr
  refine ⟨fun x hx => h x ?_, fun h => absurd rfl h⟩; rw [List.append_nil]
  by_cases hq : q = []
  ·subst hq; simp at hx
  ·rw [List.dropLast_append_of_ne_nil hq]; exact List.mem_append_right _ hx
 ·rw [List.dropLast_append_of_ne_nil hr] at h
  have h2 : ∀ x ∈ q, F x := fun x hx => h x (List.mem_append_left _ (List.mem_append_right _ hx))
  exact ⟨fun x hx => h2 x (List.dropLast_subset _ hx), fun _ => h2⟩
theorem Qas.seg_ok {m : List S68} (F : Qas m) {a b : Nat} (h : a ≤ b) {q : Int} (hq : q = 1 ∨ q = 2) : (∀ x ∈ sd q (seg m a b), Qfd x ∧ x.size ≤ 1000000) ∧ (∀ x ∈ (sd q (seg m a b)).dropLast, FavT.full x) ∧ (sd q (m.drop b) ≠ [] → ∀ x ∈ sd q (seg m a b), FavT.full x) := by
 have e : sd q m = sd q (m.take a) ++ sd q (seg m a b) ++ sd q (m.drop b) := by rw [← Ks, ← Ks, ← Qgp m h]
 have h1 := F.ok q hq; have h2 := F.small q hq; have h3 := F.full q hq
 rw [e] at h1 h2 h3
 obtain ⟨g1, g2⟩ := Qmw h3; exact ⟨fun x hx => ⟨h1 x (List.mem_append_left _ (List.mem_append_right _ hx)), h2 x (List.mem_append_left _ (List.mem_append_right _ hx))⟩, g1, g2⟩
theorem Qas.len {m : List S68} (F : Qas m) (q : Int) (a : Nat) : (sd q (m.take a)).length ≤ 100000 := by
 have := Qfk q (m.take a)
 rw [List.length_take] at this
 have := F.few
 omega
theorem Qas.seglen {m : List S68} (F : Qas m) (a b : Nat) : (seg m a b).length ≤ 100000 := by
 have := F.few; unfold seg; rw [List.length_drop, List.length_take]; omega
theorem Qmu : ∀ (l : List S49) (i : Nat), (∃ x ∈ l, x.f0 ≠ 0) → 0 ≤ Uq l i
 | [], _, ⟨x, hx, _⟩ => by simp at hx
 | s :: r, i, ⟨x, hx, h0⟩ => by
  rw [Uq]
  split
  ·omega
  ·rename_i hs
   rcases List.mem_cons.1 hx with rfl | hx
   ·exact absurd h0 hs
   ·exact Qmu r (i + 1) ⟨x, hx, h0⟩
theorem Qnl {l : List ByteArray} (h : 0 < l.length) : Zy ByteArray.empty l ((l.length : Int) - 1) ∈ l := by
 rw [show (l.length : Int) - 1 = ((l.length - 1 : Nat) : Int) by omega, Qkc l (by omega)]; exact List.getElem_mem _
theorem Qiz {m : List S68} (F : Qas m) {a b : Nat} (h : a ≤ b) {q : Int} (hq : q = 1 ∨ q = 2) (last : Bool) (hl : last = false → sd q (m.drop b) ≠ []) :
  ∃ K, ∀ k, K ≤ k → Kt k ((grp (seg m a b)).map Yo) q last (sd q (seg m a b)) := by
 obtain ⟨h1, h2, h3⟩ := F.seg_ok h hq; have hs := F.seglen a b; have hc := Qfk q (seg m a b); have e1 := Qhm q (Qcj (m := seg m a b) (by omega))
 rw [Jt] at e1
 have e2 := Qjg (l := sd q (seg m a b)) (by omega) (fun x hx => (h1 x hx).1) h2 (fun x hx => (h1 x hx).2); obtain ⟨K1, g1⟩ := e1; obtain ⟨K2, g2⟩ := e2; refine ⟨max K1 K2, fun k hk => ⟨g1 k (by omega), g2 k (by omega), fun hf hp => ?_⟩⟩; have hm := Qnl hp; exact Qic (h3 (hl hf) _ hm) (h1 _ hm).2
theorem Qnm {m : List S68} (F : Qas m) {i : Nat} (hi : i + 1 < m.length) (h0 : m[i].f0 = 0) : full m[i].f1 := by
 have hd : m.drop (i + 1) = m[i + 1] :: m.drop (i + 2) := List.drop_eq_getElem_cons hi; have hk := F.kinds m[i + 1] (List.getElem_mem hi)
 obtain ⟨q, hq, hy⟩ : ∃ q : Int, (q = 1 ∨ q = 2) ∧ (m[i + 1].f0 = 0 ∨ m[i + 1].f0 = q) := by
  by_cases c : m[i + 1].f0 = 2
  ·exact ⟨2, .inr rfl, .inr c⟩
  ·exact ⟨1, .inl rfl, by omega⟩
 have h3 := (F.seg_ok (a := i) (b := i + 1) (by omega) hq).2.2; refine h3 ?_ _ (Qhf (Qgz (Nat.le_refl _) (Nat.lt_succ_self _) (by omega) (by omega)) (.inl h0)); intro e; have : m[i + 1].f1 ∈ sd q (m.drop (i + 1)) := Qhf (Qio hi) hy
 rw [e] at this
 simp at this
theorem Qlw {a1 a2 w1 w2 e1 e2 p1 p2 g : Nat} (h1 : w1 = a1 + g) (h2 : w2 = a2 + g) (h3 : e1 = w1 + p1) (h4 : e2 = w2 + p2) (b1 : e1 ≤ 100000) (b2 : e2 ≤ 100000) : wrap64 (wrap64 ((a2 : Int) - (a1 : Int) + (p2 : Int)) - (p1 : Int)) = (e2 : Int) - (e1 : Int) := by
 have e : wrap64 ((a2 : Int) - (a1 : Int) + (p2 : Int)) = (a2 : Int) - (a1 : Int) + (p2 : Int) := w64 (by omega) (by omega); rw [e, w64 (by omega) (by omega)]
 omega
theorem Qoh {w1 e1 p1 : Nat} (h3 : e1 = w1 + p1) (b1 : e1 ≤ 100000) : wrap64 ((w1 : Int) + (p1 : Int)) = (e1 : Int) := by rw [w64 (by omega) (by omega)]; omega
theorem Qiv {m : List S68} (F : Qas m) : ∀ (ws : List (Nat × Nat)) (a : Nat), Qfs (Yi m) a ws → a ≤ m.length →
  ∃ K, ∀ k, K ≤ k → Kr k (ws.map (hk m)) ((sd 1 (m.take a)).length : Int) (((sd 2 (m.take a)).length : Int) - ((sd 1 (m.take a)).length : Int))
 | [], _, _, _ => ⟨0, fun _ _ => trivial⟩
 | w :: r, a, ⟨h1, h2, h3, h4, h5, h6, h7⟩, ha => by
  rw [Yw] at h3
  obtain ⟨K0, IH⟩ := Qiv F r w.2 h7 h3; have f1 := F.len 1; have f2 := F.len 2; have hsl := F.seglen w.1 w.2; have hkeep := Qii (by omega) h4
  have k1 : (sd 1 (seg m a w.1)).length = (sd 2 (seg m a w.1)).length := by rw [Ki hkeep, Ki hkeep]
  have a1 : (sd 1 (m.take w.1)).length = (sd 1 (m.take a)).length + (sd 1 (seg m a w.1)).length := by rw [Qan 1 m h1, List.length_append]
  have a2 : (sd 2 (m.take w.1)).length = (sd 2 (m.take a)).length + (sd 2 (seg m a w.1)).length := by rw [Qan 2 m h1, List.length_append]
  have b1 : (sd 1 (m.take w.2)).length = (sd 1 (m.take w.1)).length + (sd 1 (seg m w.1 w.2)).length := by rw [Qan 1 m (Nat.le_of_lt h2), List.length_append]
  have b2 : (sd 2 (m.take w.2)).length = (sd 2 (m.take w.1)).length + (sd 2 (seg m w.1 w.2)).length := by rw [Qan 2 m (Nat.le_of_lt h2), List.length_append]
  have sub : m = m.take w.1 ++ seg m w.1 w.2 ++ m.drop w.2 := Qgp m (Nat.le_of_lt h2)
  have mem : ∀ x ∈ seg m w.1 w.2, x ∈ m := fun x hx => by rw [sub]; exact List.mem_append_left _ (List.mem_append_right _ hx)
  have hrt : Rt (grp (seg m w.1 w.2)) := Qqb (fun x hx => F.kinds x (mem x hx)) (by have := F.up; rw [sub] at this; exact this.inner); have fw := Qcj (m := seg m w.1 w.2) (by omega)
  have hnext : ∀ q : Int, r.isEmpty = false → sd q (m.drop w.2) ≠ [] := by
   intro q hr
   have hr2 : r ≠ [] := by intro e; rw [e] at hr; cases hr
   obtain ⟨g1, g2⟩ := h6 hr2
   rw [Yw] at g1
   rw [Ju g1] at g2
   intro e; have : m[w.2].f1 ∈ sd q (m.drop w.2) := Qhf (Qio g1) (.inl (of_decide_eq_true g2))
   rw [e] at this
   simp at this
  obtain ⟨K1, E1⟩ := Qln (grp (seg m w.1 w.2)) fw.1
  rw [(Qmd _).2 hrt] at E1
  obtain ⟨K2, E2⟩ := Qiz F (Nat.le_of_lt h2) (q := 1) (.inl rfl) r.isEmpty (hnext 1); obtain ⟨K3, E3⟩ := Qiz F (Nat.le_of_lt h2) (q := 2) (.inr rfl) r.isEmpty (hnext 2); obtain ⟨K4, E4⟩ := Qin fw
  rw [Qeb] at E4
  have hch : ∃ x ∈ (grp (seg m w.1 w.2)).map Yo, x.f0 ≠ 0 := by
   obtain ⟨i, i1, i2, i3⟩ := h5
   have him : i < m.length := by omega
   rw [Ju him] at i3
   have hx := Qgz i1 i2 him h3
   rw [← Qeb (seg m w.1 w.2)] at hx
   unfold mks at hx
   obtain ⟨y, hy, hx⟩ := List.mem_flatMap.1 hx; refine ⟨Yo y, List.mem_map.2 ⟨y, hy, rfl⟩, ?_⟩
   show y.f0 ≠ 0
   rw [← Jw hx]; exact of_decide_eq_false i3
  refine ⟨max K0 (max K1 (max K2 (max K3 K4))), fun k hk => ?_⟩; have G0 := IH k (by omega); refine ⟨((sd 1 (seg m w.1 w.2)).length : Int), ((sd 2 (seg m w.1 w.2)).length : Int), ⟨E1 k (by omega), ?_, ⟨sd 1 (seg m w.1 w.2), ?_⟩, ⟨sd 2 (seg m w.1 w.2), ?_⟩, ⟨seg m w.1 w.2, E4 k (by omega), by omega, ?_⟩, ?_, ?_, ?_, ?_⟩, ?_⟩
  ·unfold Yz.f
   rw [decide_eq_true]; exact Qmu _ 0 hch
  ·rw [List.isEmpty_map]; exact E2 k (by omega)
  ·rw [List.isEmpty_map]; exact E3 k (by omega)
  ·intro x hx h0
   obtain ⟨j, hj, rfl⟩ := List.getElem_of_mem hx
   rw [List.length_take] at hj
   have hjs : j < (seg m w.1 w.2).length := by omega
   have hsz : (seg m w.1 w.2).length = w.2 - w.1 := Qee h3; have e : (seg m w.1 w.2)[j] = m[w.1 + j]'(by omega) := Qkh h3 hjs
   rw [List.getElem_take, e] at h0 ⊢
   have hf := Qnm F (i := w.1 + j) (by omega) h0; have hm : m[w.1 + j]'(by omega) ∈ seg m w.1 w.2 := Qgz (by omega) (by omega) (by omega) h3; exact Qic hf ((F.seg_ok (Nat.le_of_lt h2) (q := 1) (.inl rfl)).1 _ (Qhf hm (.inl h0))).2
  ·show _ ≤ ((sd 1 (m.take w.1)).length : Int)
   omega
  ·show ((sd 1 (m.take w.1)).length : Int) ≤ _
   have := f1 w.1
   omega
  ·show ((sd 2 (m.take w.1)).length : Int) = wrap64 (((sd 1 (m.take w.1)).length : Int) + _)
   have := f1 w.1; have := f2 w.1; rw [w64 (by omega) (by omega)]
   omega
  ·have := Qjb fw k
   rw [Jt, Jt] at this
   exact this
  ·have e1 : wrap64 ((FavT.hk m w).f0 + ((sd 1 (seg m w.1 w.2)).length : Int)) = ((sd 1 (m.take w.2)).length : Int) := Qoh b1 (f1 w.2)
   have e2 : wrap64 (wrap64 (((sd 2 (m.take a)).length : Int) - ((sd 1 (m.take a)).length : Int) + ((sd 2 (seg m w.1 w.2)).length : Int)) - ((sd 1 (seg m w.1 w.2)).length : Int)) = ((sd 2 (m.take w.2)).length : Int) - ((sd 1 (m.take w.2)).length : Int) := Qlw a1 (k1 ▸ a2) b1 b2 (f1 w.2) (f2 w.2); rw [e1, e2]; exact G0
theorem Qmb (m : List S68) (ws : List (Nat × Nat)) (pre r : List (Nat × Nat)) (w : Nat × Nat) (h : ws = pre ++ w :: r) : Qq (ws.map (hk m)) (pre.length : Int) = hk m w := by
 subst h; rw [Jz (by simp)]
 simp
theorem Qox (q : Int) (m : List S68) (b : Nat) : (sd q m).take (sd q (m.take b)).length = sd q (m.take b) := by
 rw [Qfj q m b, List.take_left]
theorem Qow (q : Int) (m : List S68) (b : Nat) : (sd q m).drop (sd q (m.take b)).length = sd q (m.drop b) := by
 rw [Qfj q m b, List.drop_left]
theorem Qnu (q : Int) (m : List S68) {a b : Nat} (h : a ≤ b) : ((sd q m).take (sd q (m.take b)).length).drop (sd q (m.take a)).length = sd q (seg m a b) := by
 rw [Qox, Qan q m h, List.drop_left]
theorem Qhv {m : List S68} (F : Qas m) (ws : List (Nat × Nat)) (hwl : ws.length ≤ 1000000) (s : ByteArray) (hW : Ev (fun k => Zk.f k (sd 2 m)) true) (hJ : ∀ k, Xn.f k (sd 2 m) = some s) :
  ∀ (r pre : List (Nat × Nat)) (a : Nat), ws = pre ++ r → Qfs (Yi m) a r → a ≤ m.length →
  Ev (fun k => Zl.l0 k (ws.map (hk m)) (sd 1 m) (sd 2 (m.take a)) ((sd 1 (m.take a)).length : Int) (ws.map (hk m)) ((ws.map (hk m)).length : Int) (pre.length : Int)) (s, 0, -1)
 | [], pre, a, hws, hwin, ha => by
  have f2 := F.len 2 a
  have hpl : ws.length = pre.length := by rw [hws]; simp
  have hk0 := Qge hwin
  have e : sd 1 (m.drop a) = sd 2 (m.drop a) := by rw [Ki hk0, Ki hk0]
  have hle : (sd 1 (m.take a)).length ≤ (sd 1 m).length := by rw [Qfj 1 m a, List.length_append]; omega
  have hdl := Qfk 2 (m.drop a); have hfew := F.few
  rw [List.length_drop] at hdl
  refine Ev.step (f := fun k => (Zk.f k (sd 2 m)).bind fun t => if t = true then (Xn.f k (sd 2 m)).bind fun a0 => some (a0, 0, -1) else some ((⟨#[]⟩ : ByteArray), 12, wrap64 (((ws.map (hk m)).length : Int) - 1))) (fun k => ?_) (Ev.bind hW ?_)
  ·simp only [Zl.l0]
   rw [if_neg (by rw [List.length_map]; omega), if_pos (by omega), if_pos (by omega), Int.toNat_natCast, Qow, e, Option.bind_some, if_pos (by omega), Option.bind_some, ← Qfj]
  ·refine Ev.congr (fun k => by rw [if_pos rfl, hJ k, Option.bind_some]) (Ev.now _)
 | w :: r, pre, a, hws, ⟨h1, h2, h3, h4, h5, h6, h7⟩, ha => by
  rw [Yw] at h3
  have ih := Qhv F ws hwl s hW hJ r (pre ++ [w]) w.2 (by rw [hws]; simp) h7 h3
  rw [List.length_append, List.length_singleton] at ih
  have hpl : pre.length < ws.length := by rw [hws]; simp
  have h2' := Nat.le_of_lt h2; have f1 := F.len 1 w.2; have f2 := F.len 2 w.2; have hfew := F.few; have hkeep := Qii (by omega) h4
  have e12 : sd 1 (seg m a w.1) = sd 2 (seg m a w.1) := by rw [Ki hkeep, Ki hkeep]
  have a1 : (sd 1 (m.take w.1)).length = (sd 1 (m.take a)).length + (sd 1 (seg m a w.1)).length := by rw [Qan 1 m h1, List.length_append]
  have b1 : (sd 1 (m.take w.2)).length = (sd 1 (m.take w.1)).length + (sd 1 (seg m w.1 w.2)).length := by rw [Qan 1 m h2', List.length_append]
  have hle : (sd 1 (m.take w.2)).length ≤ (sd 1 m).length := by rw [Qfj 1 m w.2, List.length_append]; omega
  have c1 : sd 2 (m.take w.1) = sd 2 (m.take a) ++ sd 2 (seg m a w.1) := Qan 2 m h1; have c2 : sd 2 (m.take w.2) = sd 2 (m.take w.1) ++ sd 2 (seg m w.1 w.2) := Qan 2 m h2'; have l1 := congrArg List.length c1; have l2 := congrArg List.length c2
  rw [List.length_append] at l1 l2
  have fw := Qcj (m := seg m w.1 w.2) (by have := F.seglen w.1 w.2; omega); have E1 := Qhm 1 fw; have E2 := Qhm 2 fw
  rw [Jt] at E1 E2
  have E3 := Qmz (sd 1 (seg m w.1 w.2)) (sd 1 (seg m w.1 w.2)) (by omega)
  rw [decide_eq_true rfl] at E3
  have hrd := Qmb m ws pre r w hws; have k0 : (hk m w).f0 = ((sd 1 (m.take w.1)).length : Int) := rfl; have k2 : (hk m w).f2 = (grp (seg m w.1 w.2)).map Yo := rfl
  have hw2 : wrap64 (((sd 1 (m.take w.1)).length : Int) + ((sd 1 (seg m w.1 w.2)).length : Int)) = ((sd 1 (m.take w.2)).length : Int) := by rw [w64 (by omega) (by omega)]; omega
  have hpb : pre.length ≤ 1000000000000000 := by omega
  have s1 := Qnu 1 m h2'; have s2 := Qnu 1 m h1; obtain ⟨K1, E1⟩ := E1; obtain ⟨K2, E2⟩ := E2; obtain ⟨K3, E3⟩ := E3; obtain ⟨K4, ih⟩ := ih; refine ⟨max K1 (max K2 (max K3 K4)) + 1, fun k hkk => ?_⟩; obtain ⟨k, rfl⟩ : ∃ k', k = k' + 1 := ⟨k - 1, by omega⟩; have E1 := E1 k (by omega); have E2 := E2 k (by omega); have E3 := E3 k (by omega); have ih := ih k (by omega); clear hkk
  simp only at E1 E2 E3 ih
  have hln : ((ws.map (hk m)).length : Int) = (ws.length : Int) := by simp
  have g1 : (pre.length : Int) < ((ws.map (hk m)).length : Int) := by omega
  have g2 : (0 : Int) ≤ (pre.length : Int) := by omega
  have g3 : ¬ ((sd 1 (m.take w.2)).length : Int) > ((sd 1 m).length : Int) := Int.not_lt.mpr (Int.ofNat_le.mpr hle); have g4 : (0 : Int) ≤ ((sd 1 (m.take w.1)).length : Int) := Int.natCast_nonneg _; have g5 : ((sd 1 (m.take w.1)).length : Int) ≤ ((sd 1 (m.take w.2)).length : Int) := Int.ofNat_le.mpr (b1 ▸ Nat.le_add_right _ _); have g6 : ((sd 1 (m.take w.2)).length : Int) ≤ ((sd 1 m).length : Int) := Int.ofNat_le.mpr hle; have g7 : (0 : Int) ≤ ((sd 1 (m.take a)).length : Int) := Int.natCast_nonneg _; have g8 : ((sd 1 (m.take a)).length : Int) ≤ ((sd 1 (m.take w.1)).length : Int) := Int.ofNat_le.mpr (a1 ▸ Nat.le_add_right _ _); have g9 : ((sd 1 (m.take w.1)).length : Int) ≤ ((sd 1 m).length : Int) := Int.le_trans g5 g6
  have g10 : (sd 2 (m.take a)).length + (sd 2 (seg m a w.1)).length < 8796093022208 := by rw [← l1]; exact Nat.lt_of_le_of_lt (F.len 2 w.1) (by decide)
  have g11 : (sd 2 (m.take a) ++ sd 2 (seg m a w.1)).length + (sd 2 (seg m w.1 w.2)).length < 8796093022208 := by rw [← c1, ← l2]; exact Nat.lt_of_le_of_lt f2 (by decide)
  clear hln; have nx := Vu hpb; simp only [Zl.l0]; rw [if_pos g1, if_pos g2, if_pos g1, hrd, k2, k0, E1, Option.bind_some, hw2, if_neg g3, if_pos g4, if_pos g5, if_pos g6, Int.toNat_natCast, Int.toNat_natCast, s1, E3, Option.bind_some, if_pos rfl, if_pos g7, if_pos g8, if_pos g9, Int.toNat_natCast, s2, e12, Option.bind_some, if_pos g10, Option.bind_some, E2, Option.bind_some, if_pos g11, nx, ← c1, ← c2]; exact ih
end FavT
end Go.Proofs.YtadafplbgophfaaGreatDoor.PA
end
section
namespace Go.Proofs.YtadafplbgophfaaGreatDoor.PA
open Go.RowKit Go.Proofs.YtadafplbgophfaaGreatDoorW.PrintWords Go.Proofs.YtadafplbgophfaaGreatDoorW.PrintLast Go.Proofs.YtadafplbgophfaaGreatDoorW.PrintMore
set_option maxHeartbeats 4000000 in
theorem Qdp.calls (s tag d : ByteArray) (n m : Int) (w : World) (hm : w.cell? ⟨0, 0, none⟩ = some (.int .i64 m)) (hs : s.size < 1000)
  (hd : (Lib.cut (Lib.trimPrefix s.data.toList tag.data.toList) [44]).1 = d.data.toList) (hdl : d.size ≤ 18) (hn : Lib.atoi d.data.toList = some n) :
  Calls Tryz.prog 71 #[.string s, .string tag] w fun e w' => e = .returned (.tuple #[.int .i64 n, .bool true]) ∧ Below w.heap.size w w' := by
 have HM := Qa.mk hm; have HD := Qa.mk hd; have HL := Qa.mk hdl; have HN := Qa.mk hn; clear hm hd hdl hn
 go_enter Tryz.func71, Tryz.ntmps71
 go_wp2_with fail; refine (Tryz.strings_TrimPrefix s tag _).mono ?_; rintro e w1 ⟨rfl, rfl⟩; go_wp2_with fail
 have hz : (⟨(Lib.trimPrefix s.data.toList tag.data.toList).toArray⟩ : ByteArray).size < 4294967281 := by
  have h1 : (Lib.trimPrefix s.data.toList tag.data.toList).length ≤ s.data.toList.length := by
   unfold Lib.trimPrefix; split
   ·rw [List.length_drop]; omega
   ·exact Nat.le_refl _
  have h2 : s.data.toList.length = s.size := Array.length_toList
  show (Lib.trimPrefix s.data.toList tag.data.toList).toArray.size < _
  rw [List.size_toArray]; omega
 have CC : Calls Tryz.prog 78 #[.string ⟨(Lib.trimPrefix s.data.toList tag.data.toList).toArray⟩, .string ⟨#[44]⟩] w1 fun e w' => (∃ x y, e = .returned (.tuple #[.string d, .string x, .bool y])) ∧ Below w1.heap.size w1 w' := by
  refine (Tryz.strings_Cut _ ⟨#[44]⟩ m _ hz HM.out).mono ?_; rintro e w2 ⟨rfl, n2, rfl⟩; have e1 : (Lib.cut (⟨(Lib.trimPrefix s.data.toList tag.data.toList).toArray⟩ : ByteArray).data.toList (⟨#[44]⟩ : ByteArray).data.toList).1 = d.data.toList := HD.out; rw [e1]; exact ⟨⟨_, _, rfl⟩, Qb (Below.refl w1.heap.size w1) n2⟩
 refine CC.mono ?_; rintro e w2 ⟨⟨x, y, rfl⟩, hb⟩; have HB := Qa.mk hb; clear hz CC hb; go_wp2_with fail; refine (Tryz.strconv_Atoi d n HL.out HN.out _).mono ?_; rintro e w3 ⟨rfl, t, rfl⟩; replace HB := Qa.mk (Qhy HB.out (Qh HB.out) 5 t)
 generalize Lib.bytesWorld w2 5 t = w3 at HB ⊢
 go_wp2_with fail
 go_region_held3 (fun _ => True) (go_keep) (fail)
 all_goals go_wp2_with fail
 all_goals (first | go_ret | go_ret2)
 exact ⟨rfl, Qd HB.out⟩
structure Rdr (w0 W : World) (g : Nat) (op : Bool) (a b : Int) (A : Option Addr) (c : Nat) (m : List S68) : Prop where
 below : Below w0.heap.size w0 W
 ge : w0.heap.size ≤ g
 blk : W.heap[g]? = some (.cells #[.slice none 0 0, .bool op, .int .i64 a, .int .i64 b, .slice none 0 0, .slice A m.length c] 97 (0, 0))
 row : Kd.R k68 68 W w0.heap.size (fun k => k ≠ g) (.slice A m.length c) m
theorem Rdr.to {w0 W W' : World} {g : Nat} {op : Bool} {a b : Int} {A : Option Addr} {c : Nat} {m : List S68} (h : Rdr w0 W g op a b A c m) (hb : Below W.heap.size W W') : Rdr w0 W' g op a b A c m :=
 ⟨Qk h.below hb, h.ge, Xt h.blk hb, Kd.R_below h.row hb⟩
def Vl (W W' : World) : Prop := ∀ (p : Nat) (cs : Array Value), W.heap[p]? = some (.cells cs 9 (0, 0)) → W'.heap[p]? = some (.cells cs 9 (0, 0))
theorem Vl.of {W W' : World} (hb : Below W.heap.size W W') : Vl W W' := fun p cs h => Xt h hb
theorem Vl.trans {A B C : World} (h : Vl A B) (k : Vl B C) : Vl A C := fun p cs x => k p cs (h p cs x)
theorem Vl.set {W : World} {g : Nat} {cs : Array Value} (hg : W.heap[g]? = some (.cells cs 97 (0, 0))) (j : Nat) (v : Value) : Vl W (W.setCell ⟨g, j, none⟩ v) := fun p cs' h =>
 (Below.heap_setCell W ⟨g, j, none⟩ v p (fun e => by
  have e : p = g := e; subst e
  rw [hg] at h
  injection h with h
  injection h with _ h
  exact absurd h (by decide))).trans h
theorem Vl.C {W W' : World} {base : Nat} {ok : Nat → Prop} {v : Value} {xs : List ByteArray} (h : Kd.R Kd.string 9 W base ok v xs) (hk : Vl W W') : Kd.R Kd.string 9 W' base ok v xs := by
 refine Kd.R_mono (Kd.R_move (Kd.R_bound h) (fun k hk' => ?_)) (fun k hk' => hk'.1); obtain ⟨_, _, _, q, hq, cells, hc⟩ := hk'
 have e : q = 9 := by simpa [Kd.string, Kd.scalar] using hq
 subst e; exact (hk k cells hc).trans hc.symm
set_option maxHeartbeats 4000000 in
theorem reader_flush0.calls (w0 W : World) (g : Nat) (a b : Int) (A : Option Addr) (c : Nat) (m : List S68) (h : Rdr w0 W g false a b A c m) :
  Calls Tryz.prog 43 #[.pointer (some ⟨g, 0, none⟩)] W fun e W' => (∃ v, e = .returned v) ∧ Rdr w0 W' g false a b none 0 [] ∧ Vl W W' := by
 have HH := Qa.mk h; have z1 := (Ql h.blk 1).trans (show _ = some (Value.bool false) from rfl); have z5 := (Ql h.blk 5).trans (show _ = some (Value.slice A m.length c) from rfl); have x1 := Qo h.blk 1; have x5 := Qo h.blk 5; clear h
 go_enter Tryz.func43, Tryz.ntmps43
 go_wp2_with fail; go_end0; have h := HH.out; have b1 : (W.setCell ⟨g, 1, none⟩ (.bool false)).heap[g]? = some (.cells #[.slice none 0 0, .bool false, .int .i64 a, .int .i64 b, .slice none 0 0, .slice A m.length c] 97 (0, 0)) := Zu h.blk 1 (.bool false) rfl; exact ⟨⟨_, rfl⟩, ⟨Qu (Qu h.below h.ge) h.ge, h.ge, Zu b1 5 (.slice none 0 0) rfl, Kd.R_nil _ _ _ _ _⟩, (Vl.set h.blk 1 (.bool false)).trans (Vl.set b1 5 (.slice none 0 0))⟩
set_option maxHeartbeats 4000000 in
set_option maxRecDepth 100000 in
theorem reader_head.calls (w0 W : World) (g : Nat) (a b : Int) (A : Option Addr) (c : Nat) (m : List S68) (s x0 x1 x2 x3 d1 d2 : ByteArray) (n1 n2 mm : Int) (h : Rdr w0 W g false a b A c m) (hm : w0.cell? ⟨0, 0, none⟩ = some (.int .i64 mm))
  (hs : s.size < 1000) (hc : Lib.countB s ⟨#[32]⟩ = 3) (hsp : Lib.splitB ⟨#[32]⟩ 0 3 s = [x0, x1, x2, x3]) (hz1 : x1.size < 1000) (hz2 : x2.size < 1000)
  (hd1 : (Lib.cut (Lib.trimPrefix x1.data.toList (⟨#[45]⟩ : ByteArray).data.toList) [44]).1 = d1.data.toList) (hdl1 : d1.size ≤ 18) (hn1 : Lib.atoi d1.data.toList = some n1)
  (hd2 : (Lib.cut (Lib.trimPrefix x2.data.toList (⟨#[43]⟩ : ByteArray).data.toList) [44]).1 = d2.data.toList) (hdl2 : d2.size ≤ 18) (hn2 : Lib.atoi d2.data.toList = some n2) :
  Calls Tryz.prog 57 #[.pointer (some ⟨g, 0, none⟩), .string s] W fun e W' => e = .returned (.bool true) ∧ Rdr w0 W' g true (wrap64 (n1 - 1)) (wrap64 (n2 - 1)) none 0 [] ∧ Vl W W' := by
 have HH := Qa.mk h; have HM := Qa.mk hm; have HD1 := Qa.mk hd1; have HD2 := Qa.mk hd2; have HL1 := Qa.mk hdl1; have HL2 := Qa.mk hdl2; have HN1 := Qa.mk hn1; have HN2 := Qa.mk hn2; have HC := Qa.mk hc; have HSP := Qa.mk hsp; have HZ1 := Qa.mk hz1; have HZ2 := Qa.mk hz2; have HS := Qa.mk hs; clear h hm hs hc hsp hz1 hz2 hd1 hdl1 hn1 hd2 hdl2 hn2
 go_enter Tryz.func57, Tryz.ntmps57
 go_wp2_with fail; refine (reader_flush0.calls w0 W g a b A c m HH.out).mono ?_; rintro e w1 ⟨⟨v, rfl⟩, h1, hk⟩; have H1 := Qa.mk h1; have K1 := Qa.mk hk; clear h1 hk HH; go_wp2_with fail
 have CS : Calls Tryz.prog 70 #[.string s, .string ⟨#[32]⟩] w1 fun e w' => e = .returned (.slice (some ⟨w1.heap.size, 0, none⟩) 4 4) ∧ w' = w1.alloc (.cells #[.string x0, .string x1, .string x2, .string x3] 9) := by
  have := Tryz.strings_Split s ⟨#[32]⟩ mm w1 (by have := HS.out; omega) (Zh H1.out.below HM.out) (by decide)
  rw [HC.out, HSP.out] at this
  exact this
 refine CS.mono ?_; rintro e w2 ⟨rfl, rfl⟩; have c1 : (w1.alloc (.cells #[.string x0, .string x1, .string x2, .string x3] 9)).cell? ⟨w1.heap.size, 1, none⟩ = some (.string x1) := (Ql (Kb w1 _) 1).trans rfl; have c2 : (w1.alloc (.cells #[.string x0, .string x1, .string x2, .string x3] 9)).cell? ⟨w1.heap.size, 2, none⟩ = some (.string x2) := (Ql (Kb w1 _) 2).trans rfl; replace K1 := Qa.mk (K1.out.trans (Vl.of (Qc (Below.refl w1.heap.size w1) (.cells #[.string x0, .string x1, .string x2, .string x3] 9)))); replace H1 := Qa.mk (H1.out.to (Qc (Below.refl w1.heap.size w1) (.cells #[.string x0, .string x1, .string x2, .string x3] 9))); clear CS
 generalize w1.alloc (.cells #[.string x0, .string x1, .string x2, .string x3] 9) = w3 at c1 c2 H1 K1 ⊢
 generalize w1.heap.size = sz at c1 c2 ⊢
 go_wp2_with fail; refine (Qdp.calls x1 ⟨#[45]⟩ d1 n1 mm w3 (Zh H1.out.below HM.out) HZ1.out HD1.out HL1.out HN1.out).mono ?_; rintro e w4 ⟨rfl, hb⟩; replace c2 := Zh hb c2; replace H1 := Qa.mk (H1.out.to hb); replace K1 := Qa.mk (K1.out.trans (Vl.of hb)); clear hb c1; go_wp2_with fail; refine (Qdp.calls x2 ⟨#[43]⟩ d2 n2 mm w4 (Zh H1.out.below HM.out) HZ2.out HD2.out HL2.out HN2.out).mono ?_; rintro e w5 ⟨rfl, hb⟩; replace H1 := Qa.mk (H1.out.to hb); replace K1 := Qa.mk (K1.out.trans (Vl.of hb)); clear hb c2; have BK := H1.out.blk; have y1 := (Ql BK 1).trans (show _ = some (Value.bool false) from rfl); have y2 := (Ql BK 2).trans (show _ = some (Value.int .i64 a) from rfl); have y3 := (Ql BK 3).trans (show _ = some (Value.int .i64 b) from rfl); have y4 := (Ql BK 4).trans (show _ = some (Value.slice none 0 0) from rfl); have q1 := Qo BK 1; have q2 := Qo BK 2; have q3 := Qo BK 3; have q4 := Qo BK 4; clear BK; go_wp2_with fail; go_ret; have h := H1.out; have b1 := Zu h.blk 2 (.int .i64 (wrap64 (n1 - 1))) rfl; have b2 := Zu b1 3 (.int .i64 (wrap64 (n2 - 1))) rfl; have b3 := Zu b2 4 (.slice none 0 0) rfl; have b4 := Zu b3 1 (.bool true) rfl; exact ⟨rfl, ⟨Qu (Qu (Qu (Qu h.below h.ge) h.ge) h.ge) h.ge, h.ge, b4, Kd.R_nil _ _ _ _ _⟩, (((K1.out.trans (Vl.set h.blk 2 _)).trans (Vl.set b1 3 _)).trans (Vl.set b2 4 _)).trans (Vl.set b3 1 _)⟩
def reader_line.T10 : Bool × List (List Nat × List Nat) := (true, [([], []), ([], []), ([1], [1]), ([2], [2]), ([3], [3]), ([], []), ([], []), ([6], [6]), ([5, 7], [5, 7]), ([8], [8]), ([4, 9], [4, 9]), ([0, 0, 1, 2, 3, 4, 5, 6, 7, 8, 9, 10], [0]), ([11, 0, 1, 2, 3, 4, 5, 6, 7, 8, 9, 10], [11]), ([12, 10, 10, 0, 1, 2, 3, 4, 5, 6, 7, 8, 9, 10], [10, 12])])
def reader_line.B10 : List Nat := [0, 0, 2, 6, 14, 0, 0, 64, 224, 480, 1022, 2047, 4095, 8191]
theorem reader_line.tab10 : Yu .any (Jj Tryz.f42 10) = reader_line.T10 := by kernel_rfl
theorem reader_line.bits10 : Ys reader_line.T10.2 reader_line.B10 = true := by kernel_rfl
set_option maxHeartbeats 4000000 in
set_option maxRecDepth 100000 in
theorem reader_line.calls (w0 W : World) (g : Nat) (a b : Int) (A : Option Addr) (c : Nat) (m : List S68) (s rest : ByteArray) (x : UInt8) (kind : Int) (h : Rdr w0 W g true a b A c m) (hml : m.length ≤ 1000)
  (hP : Lib.hasPrefix s.data.toList (⟨#[37]⟩ : ByteArray).data.toList = false) (hE : (s.toList == [92, 32, 110, 111, 32, 101, 110, 100, 10]) = false) (hs : 1 ≤ s.size) (hx : s.extract 0 1 = ⟨#[x]⟩) (hr : s.extract 1 s.size = rest)
  (hk : Lib.indexByte (⟨#[32, 45, 43]⟩ : ByteArray).data.toList x = kind) (hk0 : 0 ≤ kind) :
  Calls Tryz.prog 42 #[.pointer (some ⟨g, 0, none⟩), .string s] W fun e W' => e = .returned (.bool true) ∧ ∃ A' c', Rdr w0 W' g true a b A' c' (m ++ [⟨kind, rest⟩]) ∧ Vl W W' := by
 have H := Qa.mk h; have ML := Qa.mk hml; have hE2 : (s.toList = [92, 32, 110, 111, 32, 101, 110, 100, 10]) = False := eq_false (fun h => by rw [h] at hE; exact absurd hE (by decide))
 have C56 : ∀ w, Calls Tryz.prog 56 #[.string s, .string ⟨#[37]⟩] w fun e w' => e = .returned (.bool false) ∧ w' = w := fun w => by have := Tryz.strings_HasPrefix s ⟨#[37]⟩ w; rw [hP] at this; exact this
 have C36 : ∀ w, Calls Tryz.prog 36 #[.string ⟨#[32, 45, 43]⟩, .string (s.extract 0 1)] w fun e w' => e = .returned (.int .i64 kind) ∧ w' = w := fun w => by have := Tryz.strings_Index_one ⟨#[32, 45, 43]⟩ x w; rw [hk, ← hx] at this; exact this
 have C56' := Qa.mk C56; have C36' := Qa.mk C36; have y1 := (Ql h.blk 1).trans (show _ = some (Value.bool true) from rfl); have y5 := (Ql h.blk 5).trans (show _ = some (Value.slice A m.length c) from rfl); have s1 : ((1 : Int) ≤ (s.size : Int)) = True := eq_true (by omega); have s2 : (1 ≤ s.size) = True := eq_true hs; have k0 : decide (kind < 0) = false := decide_eq_false (by omega); clear h hml hP hx hk C56 C36 hs hk0
 go_enter Tryz.func42, Tryz.ntmps42
 go_wp2_with fail; refine (C56'.out _).mono ?_; rintro e w1 ⟨rfl, rfl⟩; go_wp2_with fail; refine (C36'.out _).mono ?_; rintro e w2 ⟨rfl, rfl⟩; go_wp2_with fail; refine Vo (n := 14) (S := fun w' => w'.cell? ⟨g, 5, none⟩ = some (.slice A m.length c)) (ds := [13]) (bz_ 14 0) (by kernel_rfl) rfl rfl y5 (fun hHeld => ?_); refine Yd reader_line.tab10 reader_line.bits10 (fun HT_ HW_ => ?_); have K0 := Qa.mk (Vl.of (Qd (Below.refl w2.heap.size w2))); replace H := Qa.mk (H.out.to (Qd (Below.refl _ _))); clear y1 y5
 generalize w2.drew = wd at H K0 hHeld ⊢
 refine Qx (i := 0) (N := some 67) (v := ?_) (a' := ?_) (bz_ 14 1) rfl rfl (Qs HT_.out (by kernel_rfl)) (fun _ _ _ h => h) (Or.inl ⟨by rfl, ?_⟩) ?_ ?_; rotate_left
 ·intro w'
  go_simp
  with_reducible rfl
 rotate_left
 ·simp only [Act.put, sA_, sB_, sC_, Qp, Qr]
  rfl
 refine Qx (i := 1) (N := some 68) (v := ?_) (a' := ?_) (bz_ 14 3) rfl rfl (Qs HT_.out (by kernel_rfl)) (fun _ _ _ h => h) (Or.inl ⟨by rfl, ?_⟩) ?_ ?_; rotate_left
 ·intro w'
  go_simp
  with_reducible rfl
 rotate_left
 ·simp only [Act.put, sA_, sB_, sC_, Qp, Qr]
  rfl
 refine Qx (i := 2) (N := some 69) (v := ?_) (a' := ?_) (bz_ 14 7) rfl rfl (Qs HT_.out (by kernel_rfl)) (fun _ _ _ h => h) (Or.inl ⟨by rfl, ?_⟩) ?_ ?_; rotate_left
 ·intro w'
  go_simp
  with_reducible rfl
 rotate_left
 ·simp only [Act.put, sA_, sB_, sC_, Qp, Qr]
  rfl
 refine Qx (i := 3) (N := some 70) (v := ?_) (a' := ?_) (bz_ 14 15) rfl rfl (Qs HT_.out (by kernel_rfl)) (fun _ _ _ h => h) (Or.inl ⟨by rfl, ?_⟩) ?_ ?_; rotate_left
 ·intro w'
  go_simp
  with_reducible rfl
 rotate_left
 ·simp only [Act.put, sA_, sB_, sC_, Qp, Qr]
  rfl
 refine take_ (i := 4) (N := some 71) (v := ?_) (a' := ?_) (bz_ 14 31) rfl rfl (Xb HT_.out HW_.out (by kernel_rfl)) (fun _ _ _ h => h) (Or.inl ⟨by rfl, ?_⟩) hHeld ?_ ?_; rotate_left
 ·rintro w' s0_
  go_simp
  with_reducible rfl
 rotate_left
 ·simp only [Act.put, sA_, sB_, sC_, Qp, Qr]
  rfl
 refine Qx (i := 5) (N := some 72) (v := ?_) (a' := ?_) (bz_ 14 63) rfl rfl (Qs HT_.out (by kernel_rfl)) (fun _ _ _ h => h) (Or.inl ⟨by rfl, ?_⟩) ?_ ?_; rotate_left
 ·intro w'
  go_simp
  with_reducible rfl
 rotate_left
 ·simp only [Act.put, sA_, sB_, sC_, Qp, Qr]
  rfl
 refine Qx (i := 6) (N := some 73) (v := ?_) (a' := ?_) (bz_ 14 127) rfl rfl (Qs HT_.out (by kernel_rfl)) (fun _ _ _ h => h) (Or.inl ⟨by rfl, ?_⟩) ?_ ?_; rotate_left
 ·intro w'
  go_simp
  with_reducible rfl
 rotate_left
 ·simp only [Act.put, sA_, sB_, sC_, Qp, Qr]
  rfl
 refine Qx (i := 7) (N := some 74) (v := ?_) (a' := ?_) (bz_ 14 255) rfl rfl (Qs HT_.out (by kernel_rfl)) (fun _ _ _ h => h) (Or.inl ⟨by rfl, ?_⟩) ?_ ?_; rotate_left
 ·intro w'
  go_simp
  with_reducible rfl
 rotate_left
 ·simp only [Act.put, sA_, sB_, sC_, Qp, Qr]
  rfl
 refine Qx (i := 8) (N := some 75) (v := ?_) (a' := ?_) (bz_ 14 511) rfl rfl (Qs HT_.out (by kernel_rfl)) (fun _ _ _ h => h) (Or.inl ⟨by rfl, ?_⟩) ?_ ?_; rotate_left
 ·intro w'
  go_simp
  with_reducible rfl
 rotate_left
 ·simp only [Act.put, sA_, sB_, sC_, Qp, Qr]
  rfl
 refine Jx (i := 9) (N := some 76) (bz_ 14 1023) rfl rfl (Ye HT_.out (by kernel_rfl)) (by decide) (fun K hK => ?_); refine Jp (w1 := ?_) (v := ?_) (by rfl) rfl ?_ ?_; rotate_left 2
 ·go_simp
  constructor
  ·rfl
  ·rfl
 refine hK.out _ _ ((World.cell?_alloc_lt _ _ _ (World.block_lt_of_cell? _ _ hHeld)).trans hHeld) (fun hHeld => ?_); clear hK K; refine Vn (a' := ?_) ?_ ?_; rotate_left
 ·show Act.put _ (some 76) _ = _
  simp only [Act.put, sA_, sB_, sC_, Qp, Qr]; rfl
 refine Jx (i := 10) (N := some 77) (bz_ 14 2047) rfl rfl (Ye HT_.out (by kernel_rfl)) (by decide) (fun K hK => ?_); refine Kd.R_append_step k68 (w0 := w0) w0.heap.size (by rfl) (.tmp 71) (.tmp 76) 36 68 (.agg #[.int .i64 0, .string ⟨#[]⟩]) 24 rfl Tryz.underlying36 Qex rfl (by decide) (by omega) (.slice A m.length c) m (⟨kind, rest⟩ : S68) [.int .i64 kind, .string rest] (fun k => k ≠ g) (fun _ => False) rfl rfl ?aP (fun _ hk => hk.elim) ?aF ?aO ?aB ?aS ?aL ?_
 (case aP => exact Qkw _ _ _ (⟨kind, rest⟩ : S68))
 (case aB => exact H.out.below)
 (case aF => exact (fun k_ hk e => by have := Ul H.out.blk; omega))
 (case aO => exact H.out.row)
 (case aS => exact Qh H.out.below)
 (case aL => have := ML.out; omega)
 intro v2 w2 ho hb hg hat
 have NEB : some g ≠ (Value.slice A m.length c).ownBlock := fun e => H.out.row.1 g e.symm rfl
 have BK2 := Qa.mk (Yv H.out.blk hg NEB); have KP := Qa.mk (K0.out.trans (fun p cs hp => Yv hp hg (Kd.R_ne H.out.row hp (by decide)) : Vl wd w2)); have HB2 := Qa.mk hb; have HR2 := Qa.mk ho; have GE := Qa.mk H.out.ge; obtain ⟨A2, c2, rfl⟩ := Kd.R_slice ho; refine hK.out _ _ ((Ql BK2.out 5).trans rfl) (fun hHeld => ?_); clear ho hb hg hat NEB H; clear hK K; refine Vn (a' := ?_) ?_ ?_; rotate_left
 ·show Act.put _ (some 77) _ = _
  simp only [Act.put, sA_, sB_, sC_, Qp, Qr]; rfl
 refine Qx (i := 11) (N := some 78) (v := ?_) (a' := ?_) (bz_ 14 4095) rfl rfl (Qs HT_.out (by kernel_rfl)) (fun _ _ _ h => h) (Or.inl ⟨by rfl, ?_⟩) ?_ ?_; rotate_left
 ·intro w'
  go_simp
  with_reducible rfl
 rotate_left
 ·simp only [Act.put, sA_, sB_, sC_, Qp, Qr]
  rfl
 refine Qx (i := 12) (N := some 79) (v := ?_) (a' := ?_) (bz_ 14 8191) rfl rfl (Qs HT_.out (by kernel_rfl)) (fun _ _ _ h => h) (Or.inl ⟨by rfl, ?_⟩) ?_ ?_; rotate_left
 ·intro w'
  go_simp
  with_reducible rfl
 rotate_left
 ·simp only [Act.put, sA_, sB_, sC_, Qp, Qr]
  rfl
 have f5 := Qo BK2.out 5; refine Km (i := 13) (N := none) (bz_ 14 16383) rfl rfl (Ye HT_.out (by kernel_rfl)) (by decide) (fun K hK => ?_); refine Qfm (w1 := ?_) (by rfl) rfl ?_ ?_; rotate_left
 ·go_simp
  rfl
 refine hK.out _ _ ?_; clear hK K; refine Un (Vb HT_.out (by kernel_rfl)) ?_; go_wp2_with fail; go_ret; refine ⟨rfl, A2, c2, ⟨Qu HB2.out GE.out, GE.out, ?_, Kd.R_far (p := ⟨g, 5, none⟩) HR2.out (fun k hk => hk) _⟩, KP.out.trans (Vl.set BK2.out 5 _)⟩; rw [List.length_append]; exact Zu BK2.out 5 _ rfl
def reader_flush.T2 : Bool × List (List Nat × List Nat) := (true, [([], []), ([], []), ([1], [1]), ([2], [2]), ([3], [3]), ([], []), ([5], [5]), ([6], [6]), ([7], [7]), ([8], [8]), ([4, 9], [4, 9]), ([0, 0, 1, 2, 3, 4, 5, 6, 7, 8, 9, 10], [0]), ([11, 0, 1, 2, 3, 4, 5, 6, 7, 8, 9, 10], [11]), ([12, 10, 10, 0, 1, 2, 3, 4, 5, 6, 7, 8, 9, 10], [10, 12])])
def reader_flush.B2 : List Nat := [0, 0, 2, 6, 14, 0, 32, 96, 224, 480, 1022, 2047, 4095, 8191]
theorem reader_flush.tab2 : Yu .any (Jj Tryz.f43 2) = reader_flush.T2 := by kernel_rfl
theorem reader_flush.bits2 : Ys reader_flush.T2.2 reader_flush.B2 = true := by kernel_rfl
structure Qra (w0 W : World) (g : Nat) (h : S45) (A : Option Addr) (c : Nat) : Prop where
 below : Below w0.heap.size w0 W
 ge : w0.heap.size ≤ g
 c0 : W.cell? ⟨g, 0, none⟩ = some (.slice A 1 c)
 le : 1 ≤ c
 row : Kd.C k45 W A 1 [h]
set_option maxHeartbeats 4000000 in
set_option maxRecDepth 100000 in
theorem reader_flush1.calls (k : Nat) (w0 W : World) (g : Nat) (a b : Int) (A : Option Addr) (c : Nat) (m : List S68) (st : List S49) (h : Rdr w0 W g true a b A c m) (hst : Qw.f k m = some st) :
  Calls Tryz.prog 43 #[.pointer (some ⟨g, 0, none⟩)] W fun e W' => (∃ v, e = .returned v) ∧ ∃ A' c', Qra w0 W' g ⟨a, b, st⟩ A' c' := by
 have hu45 := Tryz.underlying45; have H := Qa.mk h; have ST := Qa.mk hst; have y1 := (Ql h.blk 1).trans (show _ = some (Value.bool true) from rfl); have y5 := (Ql h.blk 5).trans (show _ = some (Value.slice A m.length c) from rfl); clear h hst
 go_enter Tryz.func43, Tryz.ntmps43
 go_wp2_with fail; obtain ⟨_, _, eA, hcl, hC⟩ := Kd.R_reads H.out.row
 injection eA with eA1 _ eA2
 subst eA1; subst eA2; refine (Qw.calls k A c m st W hC hcl ST.out).mono ?_; rintro e w1 ⟨v0_, rfl, hS, hb⟩; obtain ⟨AS, cS, rfl⟩ := Kd.R_slice (Kd.S_R hS); have RS0 := Qa.mk (Kd.R_lower (Kd.R_mono (ok' := fun k => k ≠ g) (Kd.R_newM (M := fun k => W.heap.size ≤ k) (Kd.S_R hS) (Nat.le_refl _) (fun _ h => h)) (fun k hk e => by have := Ul H.out.blk; have := hk.1; omega)) (Qh H.out.below)); have BK0 := Qa.mk (Xt H.out.blk hb); have HB0 := Qa.mk (Qk H.out.below hb); have GE := Qa.mk H.out.ge; clear hS hb hC hcl y1 y5 H; have f4 := Qo BK0.out 4; have y4' := (Ql BK0.out 4).trans (show _ = some (Value.slice none 0 0) from rfl)
 go_upto_region 2 with (fail)
 have BK := Qa.mk (Zu BK0.out 4 (.slice AS st.length cS) rfl); have HB := Qa.mk (Qu HB0.out GE.out : Below w0.heap.size w0 (w1.setCell ⟨g, 4, none⟩ (.slice AS st.length cS))); have RS := Qa.mk (Kd.R_far (p := ⟨g, 4, none⟩) RS0.out (fun k hk => hk) (.slice AS st.length cS)); clear BK0 HB0 RS0 f4 y4'
 generalize w1.setCell ⟨g, 4, none⟩ (.slice AS st.length cS) = wB at BK HB RS ⊢
 have y0 := (Ql BK.out 0).trans (show _ = some (Value.slice none 0 0) from rfl); have y2 := (Ql BK.out 2).trans (show _ = some (Value.int .i64 a) from rfl); have y3 := (Ql BK.out 3).trans (show _ = some (Value.int .i64 b) from rfl); have y4 := (Ql BK.out 4).trans (show _ = some (Value.slice AS st.length cS) from rfl); refine Vo (n := 14) (S := fun w' => w'.cell? ⟨g, 0, none⟩ = some (.slice none 0 0) ∧ w'.cell? ⟨g, 2, none⟩ = some (.int .i64 a) ∧ w'.cell? ⟨g, 3, none⟩ = some (.int .i64 b) ∧ w'.cell? ⟨g, 4, none⟩ = some (.slice AS st.length cS)) (ds := [13]) (bz_ 14 0) (by kernel_rfl) rfl rfl ⟨y0, y2, y3, y4⟩ (fun hHeld => ?_); refine Yd reader_flush.tab2 reader_flush.bits2 (fun HT_ HW_ => ?_); replace BK := Qa.mk (Zg BK.out); replace HB := Qa.mk (Qd HB.out); replace RS := Qa.mk (Kd.R_drew RS.out); clear y0 y2 y3 y4
 generalize wB.drew = wd at BK HB RS hHeld ⊢
 refine Qx (i := 0) (N := some 15) (v := ?_) (a' := ?_) (bz_ 14 1) rfl rfl (Qs HT_.out (by kernel_rfl)) (fun _ _ _ h => h) (Or.inl ⟨by rfl, ?_⟩) ?_ ?_; rotate_left
 ·intro w'
  go_simp
  with_reducible rfl
 rotate_left
 ·simp only [Act.put, sA_, sB_, sC_, Qp, Qr]
  rfl
 refine Qx (i := 1) (N := some 16) (v := ?_) (a' := ?_) (bz_ 14 3) rfl rfl (Qs HT_.out (by kernel_rfl)) (fun _ _ _ h => h) (Or.inl ⟨by rfl, ?_⟩) ?_ ?_; rotate_left
 ·intro w'
  go_simp
  with_reducible rfl
 rotate_left
 ·simp only [Act.put, sA_, sB_, sC_, Qp, Qr]
  rfl
 refine Qx (i := 2) (N := some 17) (v := ?_) (a' := ?_) (bz_ 14 7) rfl rfl (Qs HT_.out (by kernel_rfl)) (fun _ _ _ h => h) (Or.inl ⟨by rfl, ?_⟩) ?_ ?_; rotate_left
 ·intro w'
  go_simp
  with_reducible rfl
 rotate_left
 ·simp only [Act.put, sA_, sB_, sC_, Qp, Qr]
  rfl
 refine Qx (i := 3) (N := some 18) (v := ?_) (a' := ?_) (bz_ 14 15) rfl rfl (Qs HT_.out (by kernel_rfl)) (fun _ _ _ h => h) (Or.inl ⟨by rfl, ?_⟩) ?_ ?_; rotate_left
 ·intro w'
  go_simp
  with_reducible rfl
 rotate_left
 ·simp only [Act.put, sA_, sB_, sC_, Qp, Qr]
  rfl
 refine take_ (i := 4) (N := some 19) (v := ?_) (a' := ?_) (bz_ 14 31) rfl rfl (Xb HT_.out HW_.out (by kernel_rfl)) (fun _ _ _ h => h) (Or.inl ⟨by rfl, ?_⟩) hHeld ?_ ?_; rotate_left
 ·rintro w' ⟨s0_, s1_, s2_, s3_⟩
  go_simp
  with_reducible rfl
 rotate_left
 ·simp only [Act.put, sA_, sB_, sC_, Qp, Qr]
  rfl
 refine Qx (i := 5) (N := some 20) (v := ?_) (a' := ?_) (bz_ 14 63) rfl rfl (Qs HT_.out (by kernel_rfl)) (fun _ _ _ h => h) (Or.inl ⟨by rfl, ?_⟩) ?_ ?_; rotate_left
 ·intro w'
  go_simp
  with_reducible rfl
 rotate_left
 ·simp only [Act.put, sA_, sB_, sC_, Qp, Qr]
  rfl
 refine Qx (i := 6) (N := some 21) (v := ?_) (a' := ?_) (bz_ 14 127) rfl rfl (Qs HT_.out (by kernel_rfl)) (fun _ _ _ h => h) (Or.inl ⟨by rfl, ?_⟩) ?_ ?_; rotate_left
 ·intro w'
  go_simp
  with_reducible rfl
 rotate_left
 ·simp only [Act.put, sA_, sB_, sC_, Qp, Qr]
  rfl
 refine Qx (i := 7) (N := some 22) (v := ?_) (a' := ?_) (bz_ 14 255) rfl rfl (Qs HT_.out (by kernel_rfl)) (fun _ _ _ h => h) (Or.inl ⟨by rfl, ?_⟩) ?_ ?_; rotate_left
 ·intro w'
  go_simp
  with_reducible rfl
 rotate_left
 ·simp only [Act.put, sA_, sB_, sC_, Qp, Qr]
  rfl
 refine take_ (i := 8) (N := some 23) (v := ?_) (a' := ?_) (bz_ 14 511) rfl rfl (Xb HT_.out HW_.out (by kernel_rfl)) (fun _ _ _ h => h) (Or.inl ⟨by rfl, ?_⟩) hHeld ?_ ?_; rotate_left
 ·rintro w' ⟨s0_, s1_, s2_, s3_⟩
  go_simp
  with_reducible rfl
 rotate_left
 ·simp only [Act.put, sA_, sB_, sC_, Qp, Qr]
  rfl
 refine Jx (i := 9) (N := some 24) (bz_ 14 1023) rfl rfl (Ye HT_.out (by kernel_rfl)) (by decide) (fun K hK => ?_); refine Jp (w1 := ?_) (v := ?_) (by rfl) rfl ?_ ?_; rotate_left 2
 ·go_simp
  constructor
  ·rfl
  ·rfl
 refine hK.out _ _ ⟨(World.cell?_alloc_lt _ _ _ (World.block_lt_of_cell? _ _ hHeld.1)).trans hHeld.1, (World.cell?_alloc_lt _ _ _ (World.block_lt_of_cell? _ _ hHeld.2.1)).trans hHeld.2.1, (World.cell?_alloc_lt _ _ _ (World.block_lt_of_cell? _ _ hHeld.2.2.1)).trans hHeld.2.2.1, (World.cell?_alloc_lt _ _ _ (World.block_lt_of_cell? _ _ hHeld.2.2.2)).trans hHeld.2.2.2⟩ (fun hHeld => ?_); clear hK K; refine Vn (a' := ?_) ?_ ?_; rotate_left
 ·show Act.put _ (some 24) _ = _
  simp only [Act.put, sA_, sB_, sC_, Qp, Qr]; rfl
 refine Jx (i := 10) (N := some 25) (bz_ 14 2047) rfl rfl (Ye HT_.out (by kernel_rfl)) (by decide) (fun K hK => ?_); refine Kd.R_append_step k45 (w0 := w0) w0.heap.size (by rfl) (.tmp 19) (.tmp 24) 24 45 (.agg #[.int .i64 0, .int .i64 0, .slice none 0 0]) 40 rfl Tryz.underlying24 Qnf rfl (by decide) (by omega) (.slice none 0 0) ([] : List S45) (⟨a, b, st⟩ : S45) [.int .i64 a, .int .i64 b, .slice AS st.length cS] (fun k => k ≠ g) (fun k => k ≠ g) rfl rfl ?aP (fun k hk => ⟨hk, by simp [Value.ownBlock]⟩) ?aF ?aO ?aB ?aS ?aL ?_
 (case aP => exact Qhc _ _ _ (⟨a, b, st⟩ : S45) RS.out)
 (case aB => exact HB.out)
 (case aF => exact (fun k_ hk e => by have := Ul BK.out; omega))
 (case aO => exact Kd.R_nil _ _ _ _ _)
 (case aS => exact Qh HB.out)
 (case aL => simp only [List.length_nil]; omega)
 intro v2 w2 ho hb hg hat; have BK2 := Qa.mk (Yv BK.out hg (by simp [Value.ownBlock])); have HB2 := Qa.mk hb; have HR2 := Qa.mk ho; obtain ⟨A2, c2, rfl⟩ := Kd.R_slice ho; refine hK.out _ _ ⟨(Ql BK2.out 0).trans rfl, (Ql BK2.out 2).trans rfl, (Ql BK2.out 3).trans rfl, (Ql BK2.out 4).trans rfl⟩ (fun hHeld => ?_); clear ho hb hg hat BK HB RS; clear hK K; refine Vn (a' := ?_) ?_ ?_; rotate_left
 ·show Act.put _ (some 25) _ = _
  simp only [Act.put, sA_, sB_, sC_, Qp, Qr]; rfl
 refine Qx (i := 11) (N := some 26) (v := ?_) (a' := ?_) (bz_ 14 4095) rfl rfl (Qs HT_.out (by kernel_rfl)) (fun _ _ _ h => h) (Or.inl ⟨by rfl, ?_⟩) ?_ ?_; rotate_left
 ·intro w'
  go_simp
  with_reducible rfl
 rotate_left
 ·simp only [Act.put, sA_, sB_, sC_, Qp, Qr]
  rfl
 refine Qx (i := 12) (N := some 27) (v := ?_) (a' := ?_) (bz_ 14 8191) rfl rfl (Qs HT_.out (by kernel_rfl)) (fun _ _ _ h => h) (Or.inl ⟨by rfl, ?_⟩) ?_ ?_; rotate_left
 ·intro w'
  go_simp
  with_reducible rfl
 rotate_left
 ·simp only [Act.put, sA_, sB_, sC_, Qp, Qr]
  rfl
 have f0 := Qo BK2.out 0; refine Km (i := 13) (N := none) (bz_ 14 16383) rfl rfl (Ye HT_.out (by kernel_rfl)) (by decide) (fun K hK => ?_); refine Qfm (w1 := ?_) (by rfl) rfl ?_ ?_; rotate_left
 ·go_simp
  rfl
 refine hK.out _ _ ?_; clear hK K; refine Un (Vb HT_.out (by kernel_rfl)) ?_; have BK3 := Qa.mk (Zu BK2.out 0 (.slice A2 1 c2) rfl); have HB3 := Qa.mk (Qu HB2.out GE.out : Below w0.heap.size w0 (w2.setCell ⟨g, 0, none⟩ (.slice A2 1 c2))); have HR3 := Qa.mk (Kd.R_far (p := ⟨g, 0, none⟩) HR2.out (fun k hk => hk) (.slice A2 1 c2)); clear BK2 HB2 HR2 hHeld f0
 generalize w2.setCell ⟨g, 0, none⟩ (.slice A2 1 c2) = w3 at BK3 HB3 HR3 ⊢
 have f1 := Qo BK3.out 1; have f5 := Qo BK3.out 5; have z1 := (Ql BK3.out 1).trans (show _ = some (Value.bool true) from rfl); have z5 := (Ql BK3.out 5).trans (show _ = some (Value.slice A m.length c) from rfl); go_wp2_with fail; go_end0; have b1 := Zu BK3.out 1 (.bool false) rfl; have b2 := Zu b1 5 (.slice none 0 0) rfl; have R5 := Kd.R_far (p := ⟨g, 5, none⟩) (Kd.R_far (p := ⟨g, 1, none⟩) HR3.out (fun k hk => hk) (.bool false)) (fun k hk => hk) (.slice none 0 0); obtain ⟨_, _, eA, hcl, hC⟩ := Kd.R_reads R5
 injection eA with eA1 _ eA2
 subst eA1; subst eA2; exact ⟨⟨_, rfl⟩, A2, c2, Qu (Qu HB3.out GE.out) GE.out, GE.out, (Ql b2 0).trans rfl, hcl, hC⟩
end Go.Proofs.YtadafplbgophfaaGreatDoor.PA
end
section
namespace Go.Proofs
open Go.Shelf Go.RowKit
theorem Tryz.lays166 : Go.Proofs.Lays.n166 Tryz.prog Tryz.lays156_ren := { Tryz.lays156 with }
theorem Tryz.Builder_WriteString_k (B b : Nat) (bs : List Value) (s : ByteArray) (w : World) (h : Lib.IsBuilderF 87 5 B b bs w) (hlen : bs.length + s.size ≤ 140737488355328) (hBw : B ≤ w.heap.size) :
  Calls Tryz.prog 38 #[.pointer (some ⟨b, 0, none⟩), .string s] w fun e w' => e = .returned (.tuple #[.int .i64 s.size, .nilIface]) ∧ (Lib.BuilderAtF 87 5 B b (.pointer (some ⟨b, 0, none⟩)) (bs ++ Lib.strCells s) w' ∧ Below B w w' ∧ Lib.OthersKept 5 (some b) w w') := Any.Builder_WriteString_k Tryz.lays166 Tryz.Builder_Extra_156 B b bs s w h hlen hBw
theorem Yg {T e : TypeId} {B b : Nat} {bs : List Value} {W W' : World} (h : Lib.IsBuilderF T e B b bs W) (hb : Below W.heap.size W W') : Lib.IsBuilderF T e B b bs W' := by
 have one : ∀ {p : Value}, Lib.BuilderAtF T e B b p bs W → Lib.BuilderAtF T e B b p bs W' := by
  intro p h; have hlt := h.lt; obtain ⟨hB, v, hv, hown, hne⟩ := h; exact ⟨hB, v, (hb.block b hlt).trans hv, hown.kept (row := none) ⟨hb.os, hb.tape, hb.output, hb.size, fun k hk _ => hb.block k hk⟩ (Classical.em _), hne⟩
 exact h.elim (fun x => .inl (one x)) (fun x => .inr (one x))
theorem Tryz.Builder_String_kb (B b : Nat) (l : List UInt8) (w : World) (h : Lib.IsBuilderF 87 5 B b (Lib.byteCells l) w) (hBw : B ≤ w.heap.size) :
  Calls Tryz.prog 41 #[.pointer (some ⟨b, 0, none⟩)] w fun e w' => e = .returned (.string ⟨l.toArray⟩) ∧ Below B w w' := by
 refine (Tryz.Builder_String_any_k B b l w h hBw).mono ?_; rintro e w' ⟨rfl, _, hb, _⟩; exact ⟨rfl, hb⟩
theorem Qgb (l : List UInt8) (s : ByteArray) : Lib.byteCells l ++ Lib.strCells s = Lib.byteCells (l ++ s.data.toList) := by
 simp [Lib.byteCells, Lib.strCells]
end Go.Proofs
end
section
namespace Go.Proofs.YtadafplbgophfaaGreatDoor.PA
open Go.RowKit Go.Proofs.YtadafplbgophfaaGreatDoorW.PrintWords Go.Proofs.YtadafplbgophfaaGreatDoorW.PrintLast Go.Proofs.YtadafplbgophfaaGreatDoorW.PrintMore
attribute [local go_sem] Xv Xx Yl Ym Xo Xp Xw Xy
def Ve.f (k : Nat) (a0 : Int) (a1 : Int) : Option (ByteArray) := (strconv_Itoa.f k a0).bind fun a2 => (if a2.size + 1 ≤ 9223372036854775807 then ((strconv_Itoa.f k a1).bind fun a3 => (if (a2 ++ (⟨#[44]⟩ : ByteArray)).size + a3.size ≤ 9223372036854775807 then (some ((a2 ++ (⟨#[44]⟩ : ByteArray)) ++ a3)) else (none))) else (none))
set_option maxHeartbeats 8000000 in
set_option maxRecDepth 100000 in
theorem Ve.calls (k : Nat) (a0 : Int) (a1 : Int) (r : ByteArray) (w : World) (h : Ve.f k a0 a1 = some r) :
  Calls Tryz.prog 39 #[.int .i64 a0, .int .i64 a1] w fun e w' => e = .returned (.string r) ∧ Below w.heap.size w w' := by
 have HB := Qa.mk (Below.refl w.heap.size w); have H : ((strconv_Itoa.f k a0).bind fun a2 => (if a2.size + 1 ≤ 9223372036854775807 then ((strconv_Itoa.f k a1).bind fun a3 => (if (a2 ++ (⟨#[44]⟩ : ByteArray)).size + a3.size ≤ 9223372036854775807 then (some ((a2 ++ (⟨#[44]⟩ : ByteArray)) ++ a3)) else (none))) else (none))) = some r := h; clear h; replace H := Option.bind_eq_some_iff.mp H; obtain ⟨a2, A30, H⟩ := H; replace H : (if a2.size + 1 ≤ 9223372036854775807 then ((strconv_Itoa.f k a1).bind fun a3 => (if (a2 ++ (⟨#[44]⟩ : ByteArray)).size + a3.size ≤ 9223372036854775807 then (some ((a2 ++ (⟨#[44]⟩ : ByteArray)) ++ a3)) else (none))) else (none)) = some r := H; have A3 := Qa.mk A30; clear A30
 by_cases c4 : a2.size + 1 ≤ 9223372036854775807
 ·rw [if_pos c4] at H
  have a4 := eq_true c4; have a5 : decide (a2.size + 1 ≤ 9223372036854775807) = true := decide_eq_true c4
  try have a6 : (9223372036854775807 < a2.size + 1) = False := eq_false (Nat.not_lt.2 c4)
  replace H := Option.bind_eq_some_iff.mp H; obtain ⟨a3, A50, H⟩ := H; replace H : (if (a2 ++ (⟨#[44]⟩ : ByteArray)).size + a3.size ≤ 9223372036854775807 then (some ((a2 ++ (⟨#[44]⟩ : ByteArray)) ++ a3)) else (none)) = some r := H; have A5 := Qa.mk A50; clear A50
  by_cases c6 : (a2 ++ (⟨#[44]⟩ : ByteArray)).size + a3.size ≤ 9223372036854775807
  ·rw [if_pos c6] at H
   have a7 := eq_true c6; have a8 : decide ((a2 ++ (⟨#[44]⟩ : ByteArray)).size + a3.size ≤ 9223372036854775807) = true := decide_eq_true c6
   try have a9 : (9223372036854775807 < (a2 ++ (⟨#[44]⟩ : ByteArray)).size + a3.size) = False := eq_false (Nat.not_lt.2 c6)
   have c6z : (9223372036854775807 < a2.size + 1 + a3.size) = False := eq_false (by rw [ByteArray.size_append] at c6; exact Nat.not_lt.2 c6); obtain rfl := Option.some.inj H
   go_enter Tryz.func39, Tryz.ntmps39
   go_wp2_with (first | ((with_reducible refine Zx (f := 54) rfl ?_); refine Yq (some 6) rfl rfl Tryz.func54 (by kernel_rfl) rfl #[.int .i64 a0] rfl (by (try simp only [List.map_toArray, List.map_cons, List.map_nil]); first | done | rfl | (simp only [List.length_drop, List.length_take]; rfl)) ?_; (with_reducible refine (strconv_Itoa.calls k a0 a2 _ A3.out).mono ?_); rintro e w7 ⟨rfl, hb⟩; refine ⟨_, rfl, ?_⟩; have n0_ := Qa.mk (Qk (by repeat (first | (with_reducible first | exact HB.out | apply Qc | apply Qb | apply Qd) | exact HB.out)) hb); clear HB; have HB := n0_; clear n0_; (try clear hb); (try clear hb2); (try clear hk); (try clear hi)) | ((with_reducible refine Zx (f := 54) rfl ?_); refine Yq (some 9) rfl rfl Tryz.func54 (by kernel_rfl) rfl #[.int .i64 a1] rfl (by (try simp only [List.map_toArray, List.map_cons, List.map_nil]); first | done | rfl | (simp only [List.length_drop, List.length_take]; rfl)) ?_; (with_reducible refine (strconv_Itoa.calls k a1 a3 _ A5.out).mono ?_); rintro e w8 ⟨rfl, hb⟩; refine ⟨_, rfl, ?_⟩; have n0_ := Qa.mk (Qk (by repeat (first | (with_reducible first | exact HB.out | apply Qc | apply Qb | apply Qd) | exact HB.out)) hb); clear HB; have HB := n0_; clear n0_; (try clear hb); (try clear hb2); (try clear hk); (try clear hi))); go_ret; exact ⟨by first | rfl | (simp [Qz, Za] <;> rfl) | (simp [*, Qz, Za] <;> rfl), by repeat (first | (with_reducible first | exact HB.out | apply Qc | apply Qb | apply Qd) | exact HB.out)⟩
  ·rw [if_neg c6] at H
   exact absurd H (by simp)
 ·rw [if_neg c4] at H
  exact absurd H (by simp)
end Go.Proofs.YtadafplbgophfaaGreatDoor.PA
end
