/- Part 4 of what the row of the law ResolveOnes rests on: walks of functions, and plain lemmas (in part printed by the kit's print, what is not reached left out). -/
import Derived.Test.YtadafplbgophfaaresolveOnes3
import Derived.Shelf.Strings.Builder1
import Derived.Shelf.Strings.Builder2
import Derived.Shelf.Strings.OnBuilder
import Derived.Shelf.Strings.BuilderF
import Derived.Shelf.Strings.BuilderK
import Derived.Shelf.Strings.Builder2Cap
import Derived.Shelf.Strings.Search1
import Derived.Shelf.Strings.Search2
import Derived.Shelf.Strings.Search3
import Derived.Shelf.LaysM
import Derived.Shelf.Strings.Shaped
import Derived.Shelf.Strings.Prefix
import Derived.Shelf.Bits.Mul64
import Derived.Shelf.Strings.BuilderCap
import Derived.Shelf.Slices.Equal
import Derived.Ground.Names2Prog
import Derived.Shelf.Slices.Clone
import Derived.Shelf.Slices.Empties2
import Derived.Ground.SlgnProg
import Derived.Shelf.SlicesE.Clone
import Derived.Test.YtadafplbgophfaaProg
import Derived.Lib.IndexAny
import Derived.Lib.RabinKarpLaws
section
namespace Go.Proofs
open Go.Shelf
def Try.lays169_ren : Go.Shelf.Ren := ⟨fun | 169 => 105 | n => n, fun | 70 => 159 | 9 => 9 | 0 => 0 | 72 => 162 | 37 => 160 | 127 => 203 | 3 => 3 | 5 => 5 | n => n, fun | n => n⟩
theorem Try.lays169 : Go.Proofs.Lays.n169 Try.prog Try.lays169_ren := {
  mixed := by kernel_rfl
  f169 := Try.func105.trans (congrArg some (by kernel_rfl))
  t0 := Try.underlying0
  a0 := Try.isAgg0
  z0 := Try.sizeOf0
  v0 := Try.zeroValue0
  t3 := Try.underlying3
  a3 := Try.isAgg3
  z3 := Try.sizeOf3
  v3 := Try.zeroValue3
  t9 := Try.underlying9
  a9 := Try.isAgg9
  z9 := Try.sizeOf9
  v9 := Try.zeroValue9
  t37 := Try.underlying160
  a37 := Try.isAgg160
  z37 := Try.sizeOf160
  v37 := Try.zeroValue160
  t70 := Try.underlying159
  a70 := Try.isAgg159
  z70 := Try.sizeOf159
  v70 := Try.zeroValue159
  t72 := Try.underlying162
  a72 := Try.isAgg162
  z72 := Try.sizeOf162
  v72 := Try.zeroValue162
  t127 := Try.underlying203
  a127 := Try.isAgg203
  z127 := Try.sizeOf203
  v127 := Try.zeroValue203 }
theorem Try.Builder_Extra_169 : Builder.Extra Try.prog Try.lays169_ren := {
  sizeBuilder := by kernel_rfl
  liesBuilder := by kernel_rfl
  t5 := Try.underlying5
  a5 := Try.isAgg5
  z5 := Try.sizeOf5
  v5 := Try.zeroValue5
  infoByte := by kernel_rfl
  cellsByte := by kernel_rfl
  sizeByte := by kernel_rfl
  neB5 := by decide }
def Try.lays156_ren : Go.Shelf.Ren := ⟨fun | 156 => 149 | 165 => 154 | 166 => 103 | 169 => 105 | 240 => 132 | 241 => 157 | 276 => 144 | 277 => 158 | n => n, fun | 31 => 27 | 9 => 9 | 3 => 3 | 4 => 4 | 0 => 0 | 20 => 20 | 72 => 162 | 76 => 165 | 70 => 159 | 37 => 160 | 75 => 164 | 127 => 203 | 164 => 215 | 5 => 5 | 80 => 168 | n => n, fun | n => n⟩
theorem Try.lays156 : Go.Proofs.Lays.n156 Try.prog Try.lays156_ren := {
  mixed := by kernel_rfl
  f156 := Try.func149.trans (congrArg some (by kernel_rfl))
  f165 := Try.func154.trans (congrArg some (by kernel_rfl))
  f166 := Try.func103.trans (congrArg some (by kernel_rfl))
  f169 := Try.func105.trans (congrArg some (by kernel_rfl))
  f240 := Try.func132.trans (congrArg some (by kernel_rfl))
  f241 := Try.func157.trans (congrArg some (by kernel_rfl))
  f276 := Try.func144.trans (congrArg some (by kernel_rfl))
  f277 := Try.func158.trans (congrArg some (by kernel_rfl))
  t0 := Try.underlying0
  a0 := Try.isAgg0
  z0 := Try.sizeOf0
  v0 := Try.zeroValue0
  t3 := Try.underlying3
  a3 := Try.isAgg3
  z3 := Try.sizeOf3
  v3 := Try.zeroValue3
  t4 := Try.underlying4
  a4 := Try.isAgg4
  z4 := Try.sizeOf4
  v4 := Try.zeroValue4
  t9 := Try.underlying9
  a9 := Try.isAgg9
  z9 := Try.sizeOf9
  v9 := Try.zeroValue9
  t20 := Try.underlying20
  a20 := Try.isAgg20
  z20 := Try.sizeOf20
  v20 := Try.zeroValue20
  t31 := Try.underlying27
  a31 := Try.isAgg27
  z31 := Try.sizeOf27
  v31 := Try.zeroValue27
  t37 := Try.underlying160
  a37 := Try.isAgg160
  z37 := Try.sizeOf160
  v37 := Try.zeroValue160
  t70 := Try.underlying159
  a70 := Try.isAgg159
  z70 := Try.sizeOf159
  v70 := Try.zeroValue159
  t72 := Try.underlying162
  a72 := Try.isAgg162
  z72 := Try.sizeOf162
  v72 := Try.zeroValue162
  t75 := Try.underlying164
  a75 := Try.isAgg164
  z75 := Try.sizeOf164
  v75 := Try.zeroValue164
  t76 := Try.underlying165
  a76 := Try.isAgg165
  z76 := Try.sizeOf165
  v76 := Try.zeroValue165
  t127 := Try.underlying203
  a127 := Try.isAgg203
  z127 := Try.sizeOf203
  v127 := Try.zeroValue203
  t164 := Try.underlying215
  a164 := Try.isAgg215
  z164 := Try.sizeOf215
  v164 := Try.zeroValue215 }
theorem Try.Builder_Extra_156 : Builder.Extra Try.prog Try.lays156_ren := {
  sizeBuilder := by kernel_rfl
  liesBuilder := by kernel_rfl
  t5 := Try.underlying5
  a5 := Try.isAgg5
  z5 := Try.sizeOf5
  v5 := Try.zeroValue5
  infoByte := by kernel_rfl
  cellsByte := by kernel_rfl
  sizeByte := by kernel_rfl
  neB5 := by decide }
open Go.RowKit in
theorem Try.Builder_String_any_k (B b : Nat) (l : List UInt8) (w : World) (h : Lib.IsBuilderF 162 5 B b (Lib.byteCells l) w) (hBw : B ≤ w.heap.size) :
    Calls Try.prog 105 #[.pointer (some ⟨b, 0, none⟩)] w fun e w' => e = .returned (.string ⟨l.toArray⟩) ∧ (Lib.IsBuilderF 162 5 B b (Lib.byteCells l) w' ∧ Below B w w' ∧ Lib.OthersKept 5 (some b) w w') := Any.Builder_String_any_k Try.lays169 Try.Builder_Extra_169 B b l w h hBw
def Try.lays144_ren : Go.Shelf.Ren := ⟨fun | 144 => 135 | 143 => 145 | 219 => 148 | 217 => 150 | 225 => 151 | 224 => 152 | 267 => 153 | 266 => 155 | 314 => 156 | n => n, fun | 9 => 9 | 4 => 4 | 3 => 3 | 5 => 5 | 46 => 199 | 146 => 210 | 51 => 209 | n => n, fun | 1 => 0 | n => n⟩
theorem Try.lays144 : Go.Proofs.Lays.n144 Try.prog Try.lays144_ren := {
  mixed := by kernel_rfl
  f143 := Try.func145.trans (congrArg some (by kernel_rfl))
  f144 := Try.func135.trans (congrArg some (by kernel_rfl))
  f217 := Try.func150.trans (congrArg some (by kernel_rfl))
  f219 := Try.func148.trans (congrArg some (by kernel_rfl))
  f224 := Try.func152.trans (congrArg some (by kernel_rfl))
  f225 := Try.func151.trans (congrArg some (by kernel_rfl))
  f266 := Try.func155.trans (congrArg some (by kernel_rfl))
  f267 := Try.func153.trans (congrArg some (by kernel_rfl))
  f314 := Try.func156.trans (congrArg some (by kernel_rfl))
  t3 := Try.underlying3
  a3 := Try.isAgg3
  z3 := Try.sizeOf3
  v3 := Try.zeroValue3
  t4 := Try.underlying4
  a4 := Try.isAgg4
  z4 := Try.sizeOf4
  v4 := Try.zeroValue4
  t5 := Try.underlying5
  a5 := Try.isAgg5
  z5 := Try.sizeOf5
  v5 := Try.zeroValue5
  t9 := Try.underlying9
  a9 := Try.isAgg9
  z9 := Try.sizeOf9
  v9 := Try.zeroValue9
  t46 := Try.underlying199
  a46 := Try.isAgg199
  z46 := Try.sizeOf199
  v46 := Try.zeroValue199
  t51 := Try.underlying209
  a51 := Try.isAgg209
  z51 := Try.sizeOf209
  v51 := Try.zeroValue209
  t146 := Try.underlying210
  a146 := Try.isAgg210
  z146 := Try.sizeOf210
  v146 := Try.zeroValue210
  g1 := by kernel_rfl }
open Go.RowKit Go.Lib in
theorem Try.strings_Contains_one (s : ByteArray) (c : UInt8) (w : World) :
    Calls Try.prog 135 #[.string s, .string ⟨#[c]⟩] w fun e w' => e = .returned (.bool (decide (0 ≤ Lib.indexByte s.data.toList c))) ∧ w' = w := Any.strings_Contains_one Try.lays144 s c w
open Go.RowKit Go.Lib in
theorem Try.strings_Contains (s sub : ByteArray) (m : Int) (w : World) (hs : s.size < 4294967281) (hm : w.cell? ⟨0, 0, none⟩ = some (.int .i64 m)) :
    Calls Try.prog 135 #[.string s, .string sub] w fun e w' => e = .returned (.bool (Lib.contains s.data.toList sub.data.toList)) ∧ w' = w := Any.strings_Contains Try.lays144 s sub m w hs hm
def Try.lays207_ren : Go.Shelf.Ren := ⟨fun | 207 => 133 | n => n, fun | 9 => 9 | 4 => 4 | 3 => 3 | n => n, fun | n => n⟩
theorem Try.lays207 : Go.Proofs.Lays.n207 Try.prog Try.lays207_ren := {
  mixed := by kernel_rfl
  f207 := Try.func133.trans (congrArg some (by kernel_rfl))
  t3 := Try.underlying3
  a3 := Try.isAgg3
  z3 := Try.sizeOf3
  v3 := Try.zeroValue3
  t4 := Try.underlying4
  a4 := Try.isAgg4
  z4 := Try.sizeOf4
  v4 := Try.zeroValue4
  t9 := Try.underlying9
  a9 := Try.isAgg9
  z9 := Try.sizeOf9
  v9 := Try.zeroValue9 }
open Go.RowKit Go.Lib in
theorem Try.stringslite_HasSuffix (s p : ByteArray) (w : World) (hs : s.size ≤ 9223372036854775807) :
    Calls Try.prog 133 #[.string s, .string p] w fun e w' => e = .returned (.bool (Lib.hasSuffix s.data.toList p.data.toList)) ∧ w' = w := Any.stringslite_HasSuffix Try.lays207 s p w hs
def Try.lays100_ren : Go.Shelf.Ren := ⟨fun | 100 => 109 | 207 => 133 | n => n, fun | 9 => 9 | 4 => 4 | 3 => 3 | n => n, fun | n => n⟩
theorem Try.lays100 : Go.Proofs.Lays.n100 Try.prog Try.lays100_ren := {
  mixed := by kernel_rfl
  f100 := Try.func109.trans (congrArg some (by kernel_rfl))
  f207 := Try.func133.trans (congrArg some (by kernel_rfl))
  t3 := Try.underlying3
  a3 := Try.isAgg3
  z3 := Try.sizeOf3
  v3 := Try.zeroValue3
  t4 := Try.underlying4
  a4 := Try.isAgg4
  z4 := Try.sizeOf4
  v4 := Try.zeroValue4
  t9 := Try.underlying9
  a9 := Try.isAgg9
  z9 := Try.sizeOf9
  v9 := Try.zeroValue9 }
open Go.RowKit Go.Lib in
theorem Try.strings_HasSuffix (s p : ByteArray) (w : World) (hs : s.size ≤ 9223372036854775807) :
    Calls Try.prog 109 #[.string s, .string p] w fun e w' => e = .returned (.bool (Lib.hasSuffix s.data.toList p.data.toList)) ∧ w' = w := Any.strings_HasSuffix Try.lays100 s p w hs
def Try.lays264_ren : Go.Shelf.Ren := ⟨fun | 264 => 143 | n => n, fun | 53 => 212 | 46 => 199 | n => n, fun | n => n⟩
theorem Try.lays264 : Go.Proofs.Lays.n264 Try.prog Try.lays264_ren := {
  mixed := by kernel_rfl
  f264 := Try.func143.trans (congrArg some (by kernel_rfl))
  t46 := Try.underlying199
  a46 := Try.isAgg199
  z46 := Try.sizeOf199
  v46 := Try.zeroValue199
  t53 := Try.underlying212
  a53 := Try.isAgg212
  z53 := Try.sizeOf212
  v53 := Try.zeroValue212 }
open Go.RowKit Go.Lib in
theorem Try.bits_Mul64 (x y : Nat) (hx : x < 18446744073709551616) (hy : y < 18446744073709551616) (w : World) :
    Calls Try.prog 143 #[.int .u64 x, .int .u64 y] w fun e w' => e = .returned (.tuple #[.int .u64 ((x * y / 18446744073709551616 : Nat) : Int), .int .u64 ((x * y % 18446744073709551616 : Nat) : Int)]) ∧ w' = w := Any.bits_Mul64 Try.lays264 x y hx hy w
def Try.lays212_ren : Go.Shelf.Ren := ⟨fun | 212 => 130 | 263 => 142 | 264 => 143 | n => n, fun | 46 => 199 | 51 => 209 | 146 => 210 | 53 => 212 | 148 => 213 | n => n, fun | n => n⟩
theorem Try.lays212 : Go.Proofs.Lays.n212 Try.prog Try.lays212_ren := {
  mixed := by kernel_rfl
  f212 := Try.func130.trans (congrArg some (by kernel_rfl))
  f263 := Try.func142.trans (congrArg some (by kernel_rfl))
  f264 := Try.func143.trans (congrArg some (by kernel_rfl))
  t46 := Try.underlying199
  a46 := Try.isAgg199
  z46 := Try.sizeOf199
  v46 := Try.zeroValue199
  t51 := Try.underlying209
  a51 := Try.isAgg209
  z51 := Try.sizeOf209
  v51 := Try.zeroValue209
  t53 := Try.underlying212
  a53 := Try.isAgg212
  z53 := Try.sizeOf212
  v53 := Try.zeroValue212
  t146 := Try.underlying210
  a146 := Try.isAgg210
  z146 := Try.sizeOf210
  v146 := Try.zeroValue210
  t148 := Try.underlying213
  a148 := Try.isAgg213
  z148 := Try.sizeOf213
  v148 := Try.zeroValue213 }
open Go.RowKit Go.Lib in
theorem Try.bits_Mul (x y : Nat) (hx : x < 18446744073709551616) (hy : y < 18446744073709551616) (w : World) :
    Calls Try.prog 130 #[.int .u64 x, .int .u64 y] w fun e w' => e = .returned (.tuple #[.int .u64 ((x * y / 18446744073709551616 : Nat) : Int), .int .u64 ((x * y % 18446744073709551616 : Nat) : Int)]) ∧ w' = w := Any.bits_Mul Try.lays212 x y hx hy w
end Go.Proofs
end
section
namespace Go.Proofs.Ytadafplbgophfaa.PA
set_option linter.unusedSimpArgs false
set_option linter.unusedVariables false
open Go.RowKit Go.Proofs.YtadafplbgophfaaW.PrintWords Go.Proofs.YtadafplbgophfaaW.PrintLast Go.Proofs.YtadafplbgophfaaW.PrintMore
def strings_Contains.f (_k : Nat) (a0 a1 : ByteArray) : Option Bool := if a1 = ⟨#[10]⟩ then some (decide (0 ≤ Lib.indexByte a0.data.toList 10)) else none
theorem strings_Contains.mono : ∀ a0 a1 k, LeO (strings_Contains.f k a0 a1) (strings_Contains.f (k + 1) a0 a1) := fun _ _ _ => LeO.refl _
theorem strings_Contains.calls (k : Nat) (a0 a1 : ByteArray) (r : Bool) (w : World) (h : strings_Contains.f k a0 a1 = some r) :
    Calls Try.prog 135 #[.string a0, .string a1] w fun e w' => e = .returned (.bool r) ∧ Below w.heap.size w w' := by
  unfold strings_Contains.f at h
  split at h
  case isFalse => cases h
  rename_i hG
  subst hG
  simp only [Option.some.injEq] at h
  subst h
  refine (Try.strings_Contains_one a0 10 w).mono ?_
  rintro e w' ⟨rfl, rfl⟩
  exact ⟨rfl, Below.refl _ _⟩
end Go.Proofs.Ytadafplbgophfaa.PA
end
section
namespace Go.Proofs.Ytadafplbgophfaa.PA
open Go.RowKit Go.Proofs.YtadafplbgophfaaW.PrintWords Go.Proofs.YtadafplbgophfaaW.PrintLast Go.Proofs.YtadafplbgophfaaW.PrintMore
attribute [local go_sem] max2_int min2_int max_two min_two max_three min_three max_four min_four   -- for this text's walks alone
set_option linter.unusedVariables false
set_option linter.unusedSimpArgs false
def doc_Labels_Plain.f (k : Nat) (a0_0 : ByteArray) (a0_1 : ByteArray) (a0_2 : ByteArray) : Option (Bool) := if a0_0.size + a0_1.size ≤ 9223372036854775807 then (if (a0_0 ++ a0_1).size + a0_2.size ≤ 9223372036854775807 then ((strings_Contains.f k ((a0_0 ++ a0_1) ++ a0_2) (⟨#[10]⟩ : ByteArray)).bind fun t102 => (some (!t102))) else (none)) else (none)
theorem doc_Labels_Plain.mono : ∀ a0 a1 a2 k, LeO (doc_Labels_Plain.f k a0 a1 a2) (doc_Labels_Plain.f (k + 1) a0 a1 a2) := by
 intro a0 a1 a2 k
 unfold doc_Labels_Plain.f
 repeat' first
   | (with_reducible exact strings_Contains.mono _ _ _)
   | (with_reducible exact LeO.refl _)
   | (with_reducible exact LeO.none _)
   | (with_reducible refine LeO.ite ?_ ?_)
   | (with_reducible refine LeO.bind ?_ (fun _ => ?_))
   | exact strings_Contains.mono _ _ _
   | exact LeO.none _
   | refine LeO.ite ?_ ?_
   | refine LeO.bind ?_ (fun _ => ?_)
set_option maxHeartbeats 8000000 in
set_option maxRecDepth 100000 in
theorem doc_Labels_Plain.calls (k : Nat) (a0_0 : ByteArray) (a0_1 : ByteArray) (a0_2 : ByteArray) (r : Bool) (w : World) (h : doc_Labels_Plain.f k a0_0 a0_1 a0_2 = some r) :
  Calls Try.prog 116 #[.agg #[.string a0_0, .string a0_1, .string a0_2]] w fun e w' => e = .returned (.bool r) ∧ Below w.heap.size w w' := by
 have hu116 := Try.underlying116
 have HB := Aside0.mk (Below.refl w.heap.size w)
 have H : (if a0_0.size + a0_1.size ≤ 9223372036854775807 then (if (a0_0 ++ a0_1).size + a0_2.size ≤ 9223372036854775807 then ((strings_Contains.f k ((a0_0 ++ a0_1) ++ a0_2) (⟨#[10]⟩ : ByteArray)).bind fun t102 => (some (!t102))) else (none)) else (none)) = some r := h
 clear h
 by_cases c2 : a0_0.size + a0_1.size ≤ 9223372036854775807
 ·rw [if_pos c2] at H
  have c2b0 := eq_true c2
  have c2b1 : decide (a0_0.size + a0_1.size ≤ 9223372036854775807) = true := decide_eq_true c2
  try have c2b2 : (9223372036854775807 < a0_0.size + a0_1.size) = False := eq_false (Nat.not_lt.2 c2)
  by_cases c3 : (a0_0 ++ a0_1).size + a0_2.size ≤ 9223372036854775807
  ·rw [if_pos c3] at H
   have c3b0 := eq_true c3
   have c3b1 : decide ((a0_0 ++ a0_1).size + a0_2.size ≤ 9223372036854775807) = true := decide_eq_true c3
   try have c3b2 : (9223372036854775807 < (a0_0 ++ a0_1).size + a0_2.size) = False := eq_false (Nat.not_lt.2 c3)
   replace H := Option.bind_eq_some_iff.mp H
   obtain ⟨t102, A40, H⟩ := H
   replace H : (some (!t102)) = some r := H
   have A4 := Aside0.mk A40
   clear A40
   obtain rfl := Option.some.inj H
   go_enter Try.func116, Try.ntmps116
   go_wp2_with (first | ((with_reducible refine gate_dst (N := 1) rfl ?_); refine box_event ?hg (N := 1) ?hd (cs := #[.string a0_0, .string a0_1, .string a0_2]) (t := 116) ?hr ?_; (case hd => rfl); (case hg => rfl); (case hr => first | (go_simp; done) | (go_simp; rfl)); intro gb101 hg w5 hbox hb; have n0_ := Aside0.mk (below_step (by repeat (first | (with_reducible first | exact HB.out | apply below_alloc | apply pw_below_drewN | apply below_drew1) | exact HB.out)) hb); have n1_ := Aside0.mk (hbox); have n2_ := Aside0.mk ((by rw [hg]; exact (below_size (by repeat (first | (with_reducible first | exact HB.out | apply below_alloc | apply pw_below_drewN | apply below_drew1) | exact HB.out))) : w.heap.size ≤ gb101)); have n3_ := Aside0.mk ((by rw [hg]; exact (below_size (by repeat (first | (with_reducible first | exact HB.out | apply below_alloc | apply pw_below_drewN | apply below_drew1) | exact HB.out))) : w.heap.size ≤ gb101)); clear HB; have HB := n0_; have BK101 := n1_; have GW101 := n2_; have GE101 := n3_; clear n0_ n1_ n2_ n3_; clear hb hbox hg; have hcz6_0 : w5.cell? ⟨gb101, 0, none⟩ = some (.string a0_0) := (blk_cell BK101.out 0).trans rfl; have hcz6_1 : w5.cell? ⟨gb101, 1, none⟩ = some (.string a0_1) := (blk_cell BK101.out 1).trans rfl; have hcz6_2 : w5.cell? ⟨gb101, 2, none⟩ = some (.string a0_2) := (blk_cell BK101.out 2).trans rfl; have hfz6_0 := blk_frozen BK101.out 0; have hfz6_1 := blk_frozen BK101.out 1; have hfz6_2 := blk_frozen BK101.out 2) | ((with_reducible refine gate_callee (f := 135) rfl ?_); refine goesL_ (some 11) rfl rfl Try.func135 (by kernel_rfl) rfl #[.string ((a0_0 ++ a0_1) ++ a0_2), .string (⟨#[10]⟩ : ByteArray)] rfl (by (try simp only [List.map_toArray, List.map_cons, List.map_nil]); first | done | rfl | (simp only [List.length_drop, List.length_take]; rfl)) ?_; (with_reducible refine (strings_Contains.calls k ((a0_0 ++ a0_1) ++ a0_2) (⟨#[10]⟩ : ByteArray) t102 _ A4.out).mono ?_); rintro e w7 ⟨rfl, hb⟩; refine ⟨_, rfl, ?_⟩; have n0_ := Aside0.mk (blk_below (g := gb101) (o := .cells #[.string a0_0, .string a0_1, .string a0_2] 116 (0, 0)) (by (with_reducible repeat (first | refine blk_drewN ?_ _ | refine blk_drew ?_ | refine blk_alloc ?_ _)); exact BK101.out) hb); have n1_ := Aside0.mk (below_step (by repeat (first | (with_reducible first | exact HB.out | apply below_alloc | apply pw_below_drewN | apply below_drew1 | refine below_set ?_ GE101.out) | exact HB.out)) hb); clear BK101; clear HB; have BK101 := n0_; have HB := n1_; clear n0_ n1_; (try clear hb); (try clear hb2); (try clear hk); (try clear hi)))
   go_ret
   exact ⟨by first | rfl | (simp [errW_none, errW_some] <;> rfl) | (simp [*, errW_none, errW_some] <;> rfl), by repeat (first | (with_reducible first | exact HB.out | apply below_alloc | apply pw_below_drewN | apply below_drew1 | refine below_set ?_ GE101.out) | exact HB.out)⟩
  ·rw [if_neg c3] at H
   exact absurd H (by simp)
 ·rw [if_neg c2] at H
  exact absurd H (by simp)
end Go.Proofs.Ytadafplbgophfaa.PA
end
section
namespace Go.Proofs.Ytadafplbgophfaa.PA
open Go.RowKit Go.Proofs.YtadafplbgophfaaW.PrintWords Go.Proofs.YtadafplbgophfaaW.PrintLast Go.Proofs.YtadafplbgophfaaW.PrintMore
attribute [local go_sem] max2_int min2_int max_two min_two max_three min_three max_four min_four   -- for this text's walks alone
set_option linter.unusedVariables false
set_option linter.unusedSimpArgs false
mutual
def doc_Doc_Right.l0 : Nat → List (S120) → Bool → List (S120) → Int → Int → Option (Bool)
 | 0, _, _, _, _, _ => none
 | k + 1, x0, x3, x6, x7, x8 => if x8 < x7 then (if 0 ≤ x8 then (if x8 < (x6.length : Int) then ((doc_Part_isText.f ((rd_T120 x6 x8).f0.f0) ((rd_T120 x6 x8).f0.f1) ((rd_T120 x6 x8).f0.f2) ((rd_T120 x6 x8).f1) ((rd_T120 x6 x8).f2) ((rd_T120 x6 x8).f3) ((rd_T120 x6 x8).f4) ((rd_T120 x6 x8).f5) ((rd_T120 x6 x8).f6)).bind fun t103 => (if t103 = true then (doc_Doc_Right.j1 k x0 x3 x8 x6 x7 x8 false ((rd_T120 x6 x8).f0.f0) ((rd_T120 x6 x8).f0.f1) ((rd_T120 x6 x8).f0.f2) ((rd_T120 x6 x8).f1) ((rd_T120 x6 x8).f2) ((rd_T120 x6 x8).f3) ((rd_T120 x6 x8).f4) ((rd_T120 x6 x8).f5) ((rd_T120 x6 x8).f6)) else ((doc_Part_isConflict.f ((rd_T120 x6 x8).f0.f0) ((rd_T120 x6 x8).f0.f1) ((rd_T120 x6 x8).f0.f2) ((rd_T120 x6 x8).f1) ((rd_T120 x6 x8).f2) ((rd_T120 x6 x8).f3) ((rd_T120 x6 x8).f4) ((rd_T120 x6 x8).f5) ((rd_T120 x6 x8).f6)).bind fun t104 => (doc_Doc_Right.j1 k x0 x3 x8 x6 x7 x8 (!t104) ((rd_T120 x6 x8).f0.f0) ((rd_T120 x6 x8).f0.f1) ((rd_T120 x6 x8).f0.f2) ((rd_T120 x6 x8).f1) ((rd_T120 x6 x8).f2) ((rd_T120 x6 x8).f3) ((rd_T120 x6 x8).f4) ((rd_T120 x6 x8).f5) ((rd_T120 x6 x8).f6))))) else (none)) else (none)) else (some true)
def doc_Doc_Right.j1 : Nat → List (S120) → Bool → Int → List (S120) → Int → Int → Bool → ByteArray → ByteArray → ByteArray → Bool → ByteArray → ByteArray → ByteArray → ByteArray → Bool → Option (Bool)
 | 0, _, _, _, _, _, _, _, _, _, _, _, _, _, _, _, _ => none
 | k + 1, x0, x3, x4, x6, x7, x8, x13, x103000, x103001, x103002, x103003, x103004, x103005, x103006, x103007, x103008 => if x13 = true then (doc_Doc_Right.j2 k x0 x3 x4 x6 x7 x8 x13 x103000 x103001 x103002 x103003 x103004 x103005 x103006 x103007 x103008) else ((doc_Labels_Plain.f k x103000 x103001 x103002).bind fun t105 => (doc_Doc_Right.j2 k x0 x3 x4 x6 x7 x8 (!t105) x103000 x103001 x103002 x103003 x103004 x103005 x103006 x103007 x103008))
def doc_Doc_Right.j2 : Nat → List (S120) → Bool → Int → List (S120) → Int → Int → Bool → ByteArray → ByteArray → ByteArray → Bool → ByteArray → ByteArray → ByteArray → ByteArray → Bool → Option (Bool)
 | 0, _, _, _, _, _, _, _, _, _, _, _, _, _, _, _, _ => none
 | k + 1, x0, x3, x4, x6, x7, x8, x13, x103000, x103001, x103002, x103003, x103004, x103005, x103006, x103007, x103008 => if x13 = true then (some false) else ((doc_Part_isText.f x103000 x103001 x103002 x103003 x103004 x103005 x103006 x103007 x103008).bind fun t106 => (if t106 = true then (if x3 = true then (some false) else (if x103004.toList = ([] : List UInt8) then (some false) else (if x4 < (wrap64 ((x0.length : Int) - 1)) then ((strings_HasSuffix.f x103004 (⟨#[10]⟩ : ByteArray)).bind fun t107 => (if t107 = true then ((doc_Part_isText.f x103000 x103001 x103002 x103003 x103004 x103005 x103006 x103007 x103008).bind fun t108 => (doc_Doc_Right.l0 k x0 t108 x6 x7 (wrap64 (x8 + 1)))) else (some false))) else ((doc_Part_isText.f x103000 x103001 x103002 x103003 x103004 x103005 x103006 x103007 x103008).bind fun t109 => (doc_Doc_Right.l0 k x0 t109 x6 x7 (wrap64 (x8 + 1))))))) else ((doc_Part_isText.f x103000 x103001 x103002 x103003 x103004 x103005 x103006 x103007 x103008).bind fun t110 => (doc_Doc_Right.l0 k x0 t110 x6 x7 (wrap64 (x8 + 1))))))
end
def doc_Doc_Right.f (k : Nat) (l0 : List (S120)) : Option (Bool) := doc_Doc_Right.l0 k l0 false l0 (l0.length : Int) 0
theorem doc_Doc_Right.mono_l : ∀ k, (∀ y0 y1 y2 y3 y4, LeO (doc_Doc_Right.l0 k y0 y1 y2 y3 y4) (doc_Doc_Right.l0 (k + 1) y0 y1 y2 y3 y4)) ∧ (∀ y0 y1 y2 y3 y4 y5 y6 y7 y8 y9 y10 y11 y12 y13 y14 y15, LeO (doc_Doc_Right.j1 k y0 y1 y2 y3 y4 y5 y6 y7 y8 y9 y10 y11 y12 y13 y14 y15) (doc_Doc_Right.j1 (k + 1) y0 y1 y2 y3 y4 y5 y6 y7 y8 y9 y10 y11 y12 y13 y14 y15)) ∧ (∀ y0 y1 y2 y3 y4 y5 y6 y7 y8 y9 y10 y11 y12 y13 y14 y15, LeO (doc_Doc_Right.j2 k y0 y1 y2 y3 y4 y5 y6 y7 y8 y9 y10 y11 y12 y13 y14 y15) (doc_Doc_Right.j2 (k + 1) y0 y1 y2 y3 y4 y5 y6 y7 y8 y9 y10 y11 y12 y13 y14 y15))
 | 0 => ⟨fun _ _ _ _ _ r h => by simp [doc_Doc_Right.l0] at h, fun _ _ _ _ _ _ _ _ _ _ _ _ _ _ _ _ r h => by simp [doc_Doc_Right.j1] at h, fun _ _ _ _ _ _ _ _ _ _ _ _ _ _ _ _ r h => by simp [doc_Doc_Right.j2] at h⟩
 | k + 1 => by
  obtain ⟨ih0, ih1, ih2⟩ := doc_Doc_Right.mono_l k
  refine ⟨?_, ?_, ?_⟩
  ·intro y0 y1 y2 y3 y4
   unfold doc_Doc_Right.l0
   repeat' first
   | (with_reducible exact ih0 _ _ _ _ _)
   | (with_reducible exact ih1 _ _ _ _ _ _ _ _ _ _ _ _ _ _ _ _)
   | (with_reducible exact ih2 _ _ _ _ _ _ _ _ _ _ _ _ _ _ _ _)
   | (with_reducible exact doc_Labels_Plain.mono _ _ _ _)
   | (with_reducible exact LeO.refl _)
   | (with_reducible exact LeO.none _)
   | (with_reducible refine LeO.ite ?_ ?_)
   | (with_reducible refine LeO.bind ?_ (fun _ => ?_))
   | exact ih0 _ _ _ _ _
   | exact ih1 _ _ _ _ _ _ _ _ _ _ _ _ _ _ _ _
   | exact ih2 _ _ _ _ _ _ _ _ _ _ _ _ _ _ _ _
   | exact doc_Labels_Plain.mono _ _ _ _
   | exact LeO.none _
   | refine LeO.ite ?_ ?_
   | refine LeO.bind ?_ (fun _ => ?_)
  ·intro y0 y1 y2 y3 y4 y5 y6 y7 y8 y9 y10 y11 y12 y13 y14 y15
   unfold doc_Doc_Right.j1
   repeat' first
   | (with_reducible exact ih0 _ _ _ _ _)
   | (with_reducible exact ih1 _ _ _ _ _ _ _ _ _ _ _ _ _ _ _ _)
   | (with_reducible exact ih2 _ _ _ _ _ _ _ _ _ _ _ _ _ _ _ _)
   | (with_reducible exact doc_Labels_Plain.mono _ _ _ _)
   | (with_reducible exact LeO.refl _)
   | (with_reducible exact LeO.none _)
   | (with_reducible refine LeO.ite ?_ ?_)
   | (with_reducible refine LeO.bind ?_ (fun _ => ?_))
   | exact ih0 _ _ _ _ _
   | exact ih1 _ _ _ _ _ _ _ _ _ _ _ _ _ _ _ _
   | exact ih2 _ _ _ _ _ _ _ _ _ _ _ _ _ _ _ _
   | exact doc_Labels_Plain.mono _ _ _ _
   | exact LeO.none _
   | refine LeO.ite ?_ ?_
   | refine LeO.bind ?_ (fun _ => ?_)
  ·intro y0 y1 y2 y3 y4 y5 y6 y7 y8 y9 y10 y11 y12 y13 y14 y15
   unfold doc_Doc_Right.j2
   repeat' first
   | (with_reducible exact ih0 _ _ _ _ _)
   | (with_reducible exact ih1 _ _ _ _ _ _ _ _ _ _ _ _ _ _ _ _)
   | (with_reducible exact ih2 _ _ _ _ _ _ _ _ _ _ _ _ _ _ _ _)
   | (with_reducible exact doc_Labels_Plain.mono _ _ _ _)
   | (with_reducible exact LeO.refl _)
   | (with_reducible exact LeO.none _)
   | (with_reducible refine LeO.ite ?_ ?_)
   | (with_reducible refine LeO.bind ?_ (fun _ => ?_))
   | exact ih0 _ _ _ _ _
   | exact ih1 _ _ _ _ _ _ _ _ _ _ _ _ _ _ _ _
   | exact ih2 _ _ _ _ _ _ _ _ _ _ _ _ _ _ _ _
   | exact doc_Labels_Plain.mono _ _ _ _
   | exact LeO.none _
   | refine LeO.ite ?_ ?_
   | refine LeO.bind ?_ (fun _ => ?_)
theorem doc_Doc_Right.mono : ∀ a0 k, LeO (doc_Doc_Right.f k a0) (doc_Doc_Right.f (k + 1) a0) := by
 intro a0 k
 obtain ⟨ih0, ih1, ih2⟩ := doc_Doc_Right.mono_l k
 unfold doc_Doc_Right.f
 repeat' first
   | (with_reducible exact ih0 _ _ _ _ _)
   | (with_reducible exact ih1 _ _ _ _ _ _ _ _ _ _ _ _ _ _ _ _)
   | (with_reducible exact ih2 _ _ _ _ _ _ _ _ _ _ _ _ _ _ _ _)
   | (with_reducible exact doc_Labels_Plain.mono _ _ _ _)
   | (with_reducible exact LeO.refl _)
   | (with_reducible exact LeO.none _)
   | (with_reducible refine LeO.ite ?_ ?_)
   | (with_reducible refine LeO.bind ?_ (fun _ => ?_))
   | exact ih0 _ _ _ _ _
   | exact ih1 _ _ _ _ _ _ _ _ _ _ _ _ _ _ _ _
   | exact ih2 _ _ _ _ _ _ _ _ _ _ _ _ _ _ _ _
   | exact doc_Labels_Plain.mono _ _ _ _
   | exact LeO.none _
   | refine LeO.ite ?_ ?_
   | refine LeO.bind ?_ (fun _ => ?_)
set_option maxHeartbeats 8000000 in
set_option maxRecDepth 100000 in
theorem doc_Doc_Right.calls (k : Nat) (A0 : Option Addr) (c0 : Nat) (l0 : List (S120)) (r : Bool) (w : World) (hr0 : Kd.C k120 w A0 l0.length l0) (hc0 : l0.length ≤ c0) (h : doc_Doc_Right.f k l0 = some r) :
  Calls Try.prog 70 #[.slice A0 l0.length c0] w fun e w' => e = .returned (.bool r) ∧ Below w.heap.size w w' := by
 have hu120 := Try.underlying120
 have hu116 := Try.underlying116
 have HR0 := Aside0.mk hr0
 have HC0 := Aside0.mk hc0
 clear hr0 hc0
 have HB := Aside0.mk (Below.refl w.heap.size w)
 have H : (doc_Doc_Right.l0 k l0 false l0 (l0.length : Int) 0) = some r := h
 clear h
 have H' := Aside0.mk H
 clear H
 go_enter Try.func70, Try.ntmps70
 go_wp2
 go_loopg [3, 8] k (fun kq v3 v8 w' => ∃ (x3_1 : Bool) (x8_1 : Int), v3 = .bool x3_1 ∧ v8 = .int .i64 x8_1 ∧ Aside0 (doc_Doc_Right.l0 kq l0 x3_1 l0 (l0.length : Int) x8_1 = some r) ∧ Aside0 (kq ≤ k) ∧ Aside0 (Below w.heap.size w w'))
 case atStart => exact ⟨(false), (0), (by first | rfl | (simp; done) | (simp [*]; done)), (by first | rfl | (simp; done) | (simp [*]; done)), H', ⟨Nat.le_refl _⟩, ⟨by repeat (first | (with_reducible first | exact HB.out | apply below_alloc | apply pw_below_drewN | apply below_drew1) | exact HB.out)⟩⟩
 case round =>
  clear H'
  obtain ⟨x3_1, x8_1, rfl, rfl, HA, HK1, HB⟩ := hrel
  cases gk with
  | zero => exact absurd HA.out (by simp [doc_Doc_Right.l0])
  | succ k1 =>
   have H := HA.out
   clear HA
   simp only [doc_Doc_Right.l0] at H
   by_cases c2 : x8_1 < (l0.length : Int)
   ·rw [if_pos c2] at H
    have c2b0 : decide (x8_1 < (l0.length : Int)) = true := decide_eq_true c2
    clear c2
    by_cases c3 : 0 ≤ x8_1
    ·rw [if_pos c3] at H
     have c3b0 : decide (0 ≤ x8_1) = true := decide_eq_true c3
     clear c3
     by_cases c4 : x8_1 < (l0.length : Int)
     ·rw [if_pos c4] at H
      have c4b0 : decide (x8_1 < (l0.length : Int)) = true := decide_eq_true c4
      clear c4
      have HC5 := Aside0.mk H
      clear H
      have p101 : 0 ≤ (x8_1 : Int) := of_decide_eq_true (by first | (with_reducible assumption) | assumption)
      have q101 : x8_1 < (l0.length : Int) := of_decide_eq_true (by first | (with_reducible assumption) | assumption)
      obtain ⟨ad101, e101, hx101_0, hx101_1, hx101_2, hx101_3, hx101_4, hx101_5, hx101_6, hx101_7, hx101_8⟩ := at_T120 HR0.out x8_1 p101 q101
      cases e101
      replace hx101_0 := (HB.out.cell (World.block_lt_of_cell? w _ hx101_0)).trans hx101_0
      replace hx101_1 := (HB.out.cell (World.block_lt_of_cell? w _ hx101_1)).trans hx101_1
      replace hx101_2 := (HB.out.cell (World.block_lt_of_cell? w _ hx101_2)).trans hx101_2
      replace hx101_3 := (HB.out.cell (World.block_lt_of_cell? w _ hx101_3)).trans hx101_3
      replace hx101_4 := (HB.out.cell (World.block_lt_of_cell? w _ hx101_4)).trans hx101_4
      replace hx101_5 := (HB.out.cell (World.block_lt_of_cell? w _ hx101_5)).trans hx101_5
      replace hx101_6 := (HB.out.cell (World.block_lt_of_cell? w _ hx101_6)).trans hx101_6
      replace hx101_7 := (HB.out.cell (World.block_lt_of_cell? w _ hx101_7)).trans hx101_7
      replace hx101_8 := (HB.out.cell (World.block_lt_of_cell? w _ hx101_8)).trans hx101_8
      replace p101 := eq_true p101
      replace q101 := eq_true q101
      go_upto_region 5 with (first | ((with_reducible refine gate_dst (N := 5) rfl ?_); (try (refine gate_guard (by rfl) ?_; dsimp only)); refine box_event ?hg (N := 5) ?hd (cs := #[.string (⟨#[]⟩ : ByteArray), .string (⟨#[]⟩ : ByteArray), .string (⟨#[]⟩ : ByteArray), .bool false, .string (⟨#[]⟩ : ByteArray), .string (⟨#[]⟩ : ByteArray), .string (⟨#[]⟩ : ByteArray), .string (⟨#[]⟩ : ByteArray), .bool false]) (t := 120) ?hr ?_; (case hd => rfl); (case hg => rfl); (case hr => first | (go_simp; done) | (go_simp; rfl)); intro gb102 hg w6 hbox hb; have n0_ := Aside0.mk (below_step (by repeat (first | (with_reducible first | exact HB.out | apply below_alloc | apply pw_below_drewN | apply below_drew1) | exact HB.out)) hb); have n1_ := Aside0.mk (hbox); have n2_ := Aside0.mk ((by rw [hg]; exact (below_size (by repeat (first | (with_reducible first | exact HB.out | apply below_alloc | apply pw_below_drewN | apply below_drew1) | exact HB.out))) : w.heap.size ≤ gb102)); have n3_ := Aside0.mk ((by rw [hg]; exact (below_size (by repeat (first | (with_reducible first | exact HB.out | apply below_alloc | apply pw_below_drewN | apply below_drew1) | exact HB.out))) : w.heap.size ≤ gb102)); clear HB; have HB := n0_; have BK102 := n1_; have GW102 := n2_; have GE102 := n3_; clear n0_ n1_ n2_ n3_; clear hb hbox hg; have hcz7_0 : w6.cell? ⟨gb102, 0, none⟩ = some (.string (⟨#[]⟩ : ByteArray)) := (blk_cell BK102.out 0).trans rfl; have hcz7_1 : w6.cell? ⟨gb102, 1, none⟩ = some (.string (⟨#[]⟩ : ByteArray)) := (blk_cell BK102.out 1).trans rfl; have hcz7_2 : w6.cell? ⟨gb102, 2, none⟩ = some (.string (⟨#[]⟩ : ByteArray)) := (blk_cell BK102.out 2).trans rfl; have hcz7_3 : w6.cell? ⟨gb102, 3, none⟩ = some (.bool false) := (blk_cell BK102.out 3).trans rfl; have hcz7_4 : w6.cell? ⟨gb102, 4, none⟩ = some (.string (⟨#[]⟩ : ByteArray)) := (blk_cell BK102.out 4).trans rfl; have hcz7_5 : w6.cell? ⟨gb102, 5, none⟩ = some (.string (⟨#[]⟩ : ByteArray)) := (blk_cell BK102.out 5).trans rfl; have hcz7_6 : w6.cell? ⟨gb102, 6, none⟩ = some (.string (⟨#[]⟩ : ByteArray)) := (blk_cell BK102.out 6).trans rfl; have hcz7_7 : w6.cell? ⟨gb102, 7, none⟩ = some (.string (⟨#[]⟩ : ByteArray)) := (blk_cell BK102.out 7).trans rfl; have hcz7_8 : w6.cell? ⟨gb102, 8, none⟩ = some (.bool false) := (blk_cell BK102.out 8).trans rfl; have hfz7_0 := blk_frozen BK102.out 0; have hfz7_1 := blk_frozen BK102.out 1; have hfz7_2 := blk_frozen BK102.out 2; have hfz7_3 := blk_frozen BK102.out 3; have hfz7_4 := blk_frozen BK102.out 4; have hfz7_5 := blk_frozen BK102.out 5; have hfz7_6 := blk_frozen BK102.out 6; have hfz7_7 := blk_frozen BK102.out 7; have hfz7_8 := blk_frozen BK102.out 8))
      (try simp only [Act.put, List.setIfInBounds_toArray, List.set_cons_zero, List.set_cons_succ])
      go_cut [13] (fun v13 wc => ∃ (kq : Nat) (x13_4 : Bool), v13 = .bool x13_4 ∧ Aside0 (doc_Doc_Right.j1 kq l0 x3_1 x8_1 l0 (l0.length : Int) x8_1 x13_4 ((rd_T120 l0 x8_1).f0.f0) ((rd_T120 l0 x8_1).f0.f1) ((rd_T120 l0 x8_1).f0.f2) ((rd_T120 l0 x8_1).f1) ((rd_T120 l0 x8_1).f2) ((rd_T120 l0 x8_1).f3) ((rd_T120 l0 x8_1).f4) ((rd_T120 l0 x8_1).f5) ((rd_T120 l0 x8_1).f6) = some r) ∧ Aside0 (kq ≤ k1) ∧ Aside0 (wc.heap[gb102]? = some (.cells #[.string ((rd_T120 l0 x8_1).f0.f0), .string ((rd_T120 l0 x8_1).f0.f1), .string ((rd_T120 l0 x8_1).f0.f2), .bool ((rd_T120 l0 x8_1).f1), .string ((rd_T120 l0 x8_1).f2), .string ((rd_T120 l0 x8_1).f3), .string ((rd_T120 l0 x8_1).f4), .string ((rd_T120 l0 x8_1).f5), .bool ((rd_T120 l0 x8_1).f6)] 120 (0, 0))) ∧ Aside0 (Below w.heap.size w wc))
      case first =>
       have H := HC5.out
       clear HC5
       replace H := Option.bind_eq_some_iff.mp H
       obtain ⟨t103, A80, H⟩ := H
       replace H : (if t103 = true then (doc_Doc_Right.j1 k1 l0 x3_1 x8_1 l0 (l0.length : Int) x8_1 false ((rd_T120 l0 x8_1).f0.f0) ((rd_T120 l0 x8_1).f0.f1) ((rd_T120 l0 x8_1).f0.f2) ((rd_T120 l0 x8_1).f1) ((rd_T120 l0 x8_1).f2) ((rd_T120 l0 x8_1).f3) ((rd_T120 l0 x8_1).f4) ((rd_T120 l0 x8_1).f5) ((rd_T120 l0 x8_1).f6)) else ((doc_Part_isConflict.f ((rd_T120 l0 x8_1).f0.f0) ((rd_T120 l0 x8_1).f0.f1) ((rd_T120 l0 x8_1).f0.f2) ((rd_T120 l0 x8_1).f1) ((rd_T120 l0 x8_1).f2) ((rd_T120 l0 x8_1).f3) ((rd_T120 l0 x8_1).f4) ((rd_T120 l0 x8_1).f5) ((rd_T120 l0 x8_1).f6)).bind fun t104 => (doc_Doc_Right.j1 k1 l0 x3_1 x8_1 l0 (l0.length : Int) x8_1 (!t104) ((rd_T120 l0 x8_1).f0.f0) ((rd_T120 l0 x8_1).f0.f1) ((rd_T120 l0 x8_1).f0.f2) ((rd_T120 l0 x8_1).f1) ((rd_T120 l0 x8_1).f2) ((rd_T120 l0 x8_1).f3) ((rd_T120 l0 x8_1).f4) ((rd_T120 l0 x8_1).f5) ((rd_T120 l0 x8_1).f6)))) = some r := H
       have A8 := Aside0.mk A80
       clear A80
       by_cases c9 : t103 = true
       ·subst c9
        have H1 : (doc_Doc_Right.j1 k1 l0 x3_1 x8_1 l0 (l0.length : Int) x8_1 false ((rd_T120 l0 x8_1).f0.f0) ((rd_T120 l0 x8_1).f0.f1) ((rd_T120 l0 x8_1).f0.f2) ((rd_T120 l0 x8_1).f1) ((rd_T120 l0 x8_1).f2) ((rd_T120 l0 x8_1).f3) ((rd_T120 l0 x8_1).f4) ((rd_T120 l0 x8_1).f5) ((rd_T120 l0 x8_1).f6)) = some r := by rw [if_pos rfl] at H; exact H
        clear H
        have H := H1
        clear H1
        have H' := Aside0.mk H
        clear H
        have hcz10_0 : w6.cell? ⟨gb102, 0, none⟩ = some (.string (⟨#[]⟩ : ByteArray)) := (blk_cell BK102.out 0).trans rfl
        have hcz10_1 : w6.cell? ⟨gb102, 1, none⟩ = some (.string (⟨#[]⟩ : ByteArray)) := (blk_cell BK102.out 1).trans rfl
        have hcz10_2 : w6.cell? ⟨gb102, 2, none⟩ = some (.string (⟨#[]⟩ : ByteArray)) := (blk_cell BK102.out 2).trans rfl
        have hcz10_3 : w6.cell? ⟨gb102, 3, none⟩ = some (.bool false) := (blk_cell BK102.out 3).trans rfl
        have hcz10_4 : w6.cell? ⟨gb102, 4, none⟩ = some (.string (⟨#[]⟩ : ByteArray)) := (blk_cell BK102.out 4).trans rfl
        have hcz10_5 : w6.cell? ⟨gb102, 5, none⟩ = some (.string (⟨#[]⟩ : ByteArray)) := (blk_cell BK102.out 5).trans rfl
        have hcz10_6 : w6.cell? ⟨gb102, 6, none⟩ = some (.string (⟨#[]⟩ : ByteArray)) := (blk_cell BK102.out 6).trans rfl
        have hcz10_7 : w6.cell? ⟨gb102, 7, none⟩ = some (.string (⟨#[]⟩ : ByteArray)) := (blk_cell BK102.out 7).trans rfl
        have hcz10_8 : w6.cell? ⟨gb102, 8, none⟩ = some (.bool false) := (blk_cell BK102.out 8).trans rfl
        have hfz10_0 := blk_frozen BK102.out 0
        have hfz10_1 := blk_frozen BK102.out 1
        have hfz10_2 := blk_frozen BK102.out 2
        have hfz10_3 := blk_frozen BK102.out 3
        have hfz10_4 := blk_frozen BK102.out 4
        have hfz10_5 := blk_frozen BK102.out 5
        have hfz10_6 := blk_frozen BK102.out 6
        have hfz10_7 := blk_frozen BK102.out 7
        have hfz10_8 := blk_frozen BK102.out 8
        go_wp2_with (first | ((with_reducible refine gate_callee (f := 114) rfl ?_); refine goesL_ (some 15) rfl rfl Try.func114 (by kernel_rfl) rfl #[.agg #[.string ((rd_T120 l0 x8_1).f0.f0), .string ((rd_T120 l0 x8_1).f0.f1), .string ((rd_T120 l0 x8_1).f0.f2), .bool ((rd_T120 l0 x8_1).f1), .string ((rd_T120 l0 x8_1).f2), .string ((rd_T120 l0 x8_1).f3), .string ((rd_T120 l0 x8_1).f4), .string ((rd_T120 l0 x8_1).f5), .bool ((rd_T120 l0 x8_1).f6)]] rfl (by (try simp only [List.map_toArray, List.map_cons, List.map_nil]); first | done | rfl | (simp only [List.length_drop, List.length_take]; rfl)) ?_; (with_reducible refine (doc_Part_isText.calls ((rd_T120 l0 x8_1).f0.f0) ((rd_T120 l0 x8_1).f0.f1) ((rd_T120 l0 x8_1).f0.f2) ((rd_T120 l0 x8_1).f1) ((rd_T120 l0 x8_1).f2) ((rd_T120 l0 x8_1).f3) ((rd_T120 l0 x8_1).f4) ((rd_T120 l0 x8_1).f5) ((rd_T120 l0 x8_1).f6) true _ A8.out).mono ?_); rintro e w11 ⟨rfl, hb⟩; refine ⟨_, rfl, ?_⟩; have n0_ := Aside0.mk (blk_below (g := gb102) (o := .cells #[.string ((rd_T120 l0 x8_1).f0.f0), .string ((rd_T120 l0 x8_1).f0.f1), .string ((rd_T120 l0 x8_1).f0.f2), .bool ((rd_T120 l0 x8_1).f1), .string ((rd_T120 l0 x8_1).f2), .string ((rd_T120 l0 x8_1).f3), .string ((rd_T120 l0 x8_1).f4), .string ((rd_T120 l0 x8_1).f5), .bool ((rd_T120 l0 x8_1).f6)] 120 (0, 0)) (by (with_reducible repeat (first | refine blk_drewN ?_ _ | refine blk_drew ?_ | refine blk_alloc ?_ _)); refine blk_put (cs := #[.string ((rd_T120 l0 x8_1).f0.f0), .string ((rd_T120 l0 x8_1).f0.f1), .string ((rd_T120 l0 x8_1).f0.f2), .bool ((rd_T120 l0 x8_1).f1), .string ((rd_T120 l0 x8_1).f2), .string ((rd_T120 l0 x8_1).f3), .string ((rd_T120 l0 x8_1).f4), .string ((rd_T120 l0 x8_1).f5), .bool false]) ?_ 8 _ rfl; (with_reducible repeat (first | refine blk_drewN ?_ _ | refine blk_drew ?_ | refine blk_alloc ?_ _)); refine blk_put (cs := #[.string ((rd_T120 l0 x8_1).f0.f0), .string ((rd_T120 l0 x8_1).f0.f1), .string ((rd_T120 l0 x8_1).f0.f2), .bool ((rd_T120 l0 x8_1).f1), .string ((rd_T120 l0 x8_1).f2), .string ((rd_T120 l0 x8_1).f3), .string ((rd_T120 l0 x8_1).f4), .string (⟨#[]⟩ : ByteArray), .bool false]) ?_ 7 _ rfl; (with_reducible repeat (first | refine blk_drewN ?_ _ | refine blk_drew ?_ | refine blk_alloc ?_ _)); refine blk_put (cs := #[.string ((rd_T120 l0 x8_1).f0.f0), .string ((rd_T120 l0 x8_1).f0.f1), .string ((rd_T120 l0 x8_1).f0.f2), .bool ((rd_T120 l0 x8_1).f1), .string ((rd_T120 l0 x8_1).f2), .string ((rd_T120 l0 x8_1).f3), .string (⟨#[]⟩ : ByteArray), .string (⟨#[]⟩ : ByteArray), .bool false]) ?_ 6 _ rfl; (with_reducible repeat (first | refine blk_drewN ?_ _ | refine blk_drew ?_ | refine blk_alloc ?_ _)); refine blk_put (cs := #[.string ((rd_T120 l0 x8_1).f0.f0), .string ((rd_T120 l0 x8_1).f0.f1), .string ((rd_T120 l0 x8_1).f0.f2), .bool ((rd_T120 l0 x8_1).f1), .string ((rd_T120 l0 x8_1).f2), .string (⟨#[]⟩ : ByteArray), .string (⟨#[]⟩ : ByteArray), .string (⟨#[]⟩ : ByteArray), .bool false]) ?_ 5 _ rfl; (with_reducible repeat (first | refine blk_drewN ?_ _ | refine blk_drew ?_ | refine blk_alloc ?_ _)); refine blk_put (cs := #[.string ((rd_T120 l0 x8_1).f0.f0), .string ((rd_T120 l0 x8_1).f0.f1), .string ((rd_T120 l0 x8_1).f0.f2), .bool ((rd_T120 l0 x8_1).f1), .string (⟨#[]⟩ : ByteArray), .string (⟨#[]⟩ : ByteArray), .string (⟨#[]⟩ : ByteArray), .string (⟨#[]⟩ : ByteArray), .bool false]) ?_ 4 _ rfl; (with_reducible repeat (first | refine blk_drewN ?_ _ | refine blk_drew ?_ | refine blk_alloc ?_ _)); refine blk_put (cs := #[.string ((rd_T120 l0 x8_1).f0.f0), .string ((rd_T120 l0 x8_1).f0.f1), .string ((rd_T120 l0 x8_1).f0.f2), .bool false, .string (⟨#[]⟩ : ByteArray), .string (⟨#[]⟩ : ByteArray), .string (⟨#[]⟩ : ByteArray), .string (⟨#[]⟩ : ByteArray), .bool false]) ?_ 3 _ rfl; (with_reducible repeat (first | refine blk_drewN ?_ _ | refine blk_drew ?_ | refine blk_alloc ?_ _)); refine blk_put (cs := #[.string ((rd_T120 l0 x8_1).f0.f0), .string ((rd_T120 l0 x8_1).f0.f1), .string (⟨#[]⟩ : ByteArray), .bool false, .string (⟨#[]⟩ : ByteArray), .string (⟨#[]⟩ : ByteArray), .string (⟨#[]⟩ : ByteArray), .string (⟨#[]⟩ : ByteArray), .bool false]) ?_ 2 _ rfl; (with_reducible repeat (first | refine blk_drewN ?_ _ | refine blk_drew ?_ | refine blk_alloc ?_ _)); refine blk_put (cs := #[.string ((rd_T120 l0 x8_1).f0.f0), .string (⟨#[]⟩ : ByteArray), .string (⟨#[]⟩ : ByteArray), .bool false, .string (⟨#[]⟩ : ByteArray), .string (⟨#[]⟩ : ByteArray), .string (⟨#[]⟩ : ByteArray), .string (⟨#[]⟩ : ByteArray), .bool false]) ?_ 1 _ rfl; (with_reducible repeat (first | refine blk_drewN ?_ _ | refine blk_drew ?_ | refine blk_alloc ?_ _)); refine blk_put (cs := #[.string (⟨#[]⟩ : ByteArray), .string (⟨#[]⟩ : ByteArray), .string (⟨#[]⟩ : ByteArray), .bool false, .string (⟨#[]⟩ : ByteArray), .string (⟨#[]⟩ : ByteArray), .string (⟨#[]⟩ : ByteArray), .string (⟨#[]⟩ : ByteArray), .bool false]) ?_ 0 _ rfl; (with_reducible repeat (first | refine blk_drewN ?_ _ | refine blk_drew ?_ | refine blk_alloc ?_ _)); exact BK102.out) hb); have n1_ := Aside0.mk (below_step (by repeat (first | (with_reducible first | exact HB.out | apply below_alloc | apply pw_below_drewN | apply below_drew1 | refine below_set ?_ GE102.out) | exact HB.out)) hb); clear BK102; clear HB; have BK102 := n0_; have HB := n1_; clear n0_ n1_; (try clear hb); (try clear hb2); (try clear hk); (try clear hi)))
        go_meet
        case rel => exact ⟨_, (false), (by first | rfl | (simp; done) | (simp [*]; done)), H', ⟨by have := HK1.out; first | omega | exact Nat.le_refl _⟩, ⟨by (with_reducible repeat (first | refine blk_drewN ?_ _ | refine blk_drew ?_ | refine blk_alloc ?_ _)); exact BK102.out⟩, ⟨by repeat (first | (with_reducible first | exact HB.out | apply below_alloc | apply pw_below_drewN | apply below_drew1 | refine below_set ?_ GE102.out) | exact HB.out)⟩⟩
       ·replace c9 := Bool.eq_false_iff.mpr c9
        subst c9
        have H1 : ((doc_Part_isConflict.f ((rd_T120 l0 x8_1).f0.f0) ((rd_T120 l0 x8_1).f0.f1) ((rd_T120 l0 x8_1).f0.f2) ((rd_T120 l0 x8_1).f1) ((rd_T120 l0 x8_1).f2) ((rd_T120 l0 x8_1).f3) ((rd_T120 l0 x8_1).f4) ((rd_T120 l0 x8_1).f5) ((rd_T120 l0 x8_1).f6)).bind fun t104 => (doc_Doc_Right.j1 k1 l0 x3_1 x8_1 l0 (l0.length : Int) x8_1 (!t104) ((rd_T120 l0 x8_1).f0.f0) ((rd_T120 l0 x8_1).f0.f1) ((rd_T120 l0 x8_1).f0.f2) ((rd_T120 l0 x8_1).f1) ((rd_T120 l0 x8_1).f2) ((rd_T120 l0 x8_1).f3) ((rd_T120 l0 x8_1).f4) ((rd_T120 l0 x8_1).f5) ((rd_T120 l0 x8_1).f6))) = some r := by rw [if_neg (show ¬ (false = true) by decide)] at H; exact H
        clear H
        have H := H1
        clear H1
        replace H := Option.bind_eq_some_iff.mp H
        obtain ⟨t104, A120, H⟩ := H
        replace H : (doc_Doc_Right.j1 k1 l0 x3_1 x8_1 l0 (l0.length : Int) x8_1 (!t104) ((rd_T120 l0 x8_1).f0.f0) ((rd_T120 l0 x8_1).f0.f1) ((rd_T120 l0 x8_1).f0.f2) ((rd_T120 l0 x8_1).f1) ((rd_T120 l0 x8_1).f2) ((rd_T120 l0 x8_1).f3) ((rd_T120 l0 x8_1).f4) ((rd_T120 l0 x8_1).f5) ((rd_T120 l0 x8_1).f6)) = some r := H
        have A12 := Aside0.mk A120
        clear A120
        have H' := Aside0.mk H
        clear H
        have hcz13_0 : w6.cell? ⟨gb102, 0, none⟩ = some (.string (⟨#[]⟩ : ByteArray)) := (blk_cell BK102.out 0).trans rfl
        have hcz13_1 : w6.cell? ⟨gb102, 1, none⟩ = some (.string (⟨#[]⟩ : ByteArray)) := (blk_cell BK102.out 1).trans rfl
        have hcz13_2 : w6.cell? ⟨gb102, 2, none⟩ = some (.string (⟨#[]⟩ : ByteArray)) := (blk_cell BK102.out 2).trans rfl
        have hcz13_3 : w6.cell? ⟨gb102, 3, none⟩ = some (.bool false) := (blk_cell BK102.out 3).trans rfl
        have hcz13_4 : w6.cell? ⟨gb102, 4, none⟩ = some (.string (⟨#[]⟩ : ByteArray)) := (blk_cell BK102.out 4).trans rfl
        have hcz13_5 : w6.cell? ⟨gb102, 5, none⟩ = some (.string (⟨#[]⟩ : ByteArray)) := (blk_cell BK102.out 5).trans rfl
        have hcz13_6 : w6.cell? ⟨gb102, 6, none⟩ = some (.string (⟨#[]⟩ : ByteArray)) := (blk_cell BK102.out 6).trans rfl
        have hcz13_7 : w6.cell? ⟨gb102, 7, none⟩ = some (.string (⟨#[]⟩ : ByteArray)) := (blk_cell BK102.out 7).trans rfl
        have hcz13_8 : w6.cell? ⟨gb102, 8, none⟩ = some (.bool false) := (blk_cell BK102.out 8).trans rfl
        have hfz13_0 := blk_frozen BK102.out 0
        have hfz13_1 := blk_frozen BK102.out 1
        have hfz13_2 := blk_frozen BK102.out 2
        have hfz13_3 := blk_frozen BK102.out 3
        have hfz13_4 := blk_frozen BK102.out 4
        have hfz13_5 := blk_frozen BK102.out 5
        have hfz13_6 := blk_frozen BK102.out 6
        have hfz13_7 := blk_frozen BK102.out 7
        have hfz13_8 := blk_frozen BK102.out 8
        go_wp2_with (first | ((with_reducible refine gate_callee (f := 114) rfl ?_); refine goesL_ (some 15) rfl rfl Try.func114 (by kernel_rfl) rfl #[.agg #[.string ((rd_T120 l0 x8_1).f0.f0), .string ((rd_T120 l0 x8_1).f0.f1), .string ((rd_T120 l0 x8_1).f0.f2), .bool ((rd_T120 l0 x8_1).f1), .string ((rd_T120 l0 x8_1).f2), .string ((rd_T120 l0 x8_1).f3), .string ((rd_T120 l0 x8_1).f4), .string ((rd_T120 l0 x8_1).f5), .bool ((rd_T120 l0 x8_1).f6)]] rfl (by (try simp only [List.map_toArray, List.map_cons, List.map_nil]); first | done | rfl | (simp only [List.length_drop, List.length_take]; rfl)) ?_; (with_reducible refine (doc_Part_isText.calls ((rd_T120 l0 x8_1).f0.f0) ((rd_T120 l0 x8_1).f0.f1) ((rd_T120 l0 x8_1).f0.f2) ((rd_T120 l0 x8_1).f1) ((rd_T120 l0 x8_1).f2) ((rd_T120 l0 x8_1).f3) ((rd_T120 l0 x8_1).f4) ((rd_T120 l0 x8_1).f5) ((rd_T120 l0 x8_1).f6) false _ A8.out).mono ?_); rintro e w14 ⟨rfl, hb⟩; refine ⟨_, rfl, ?_⟩; have n0_ := Aside0.mk (blk_below (g := gb102) (o := .cells #[.string ((rd_T120 l0 x8_1).f0.f0), .string ((rd_T120 l0 x8_1).f0.f1), .string ((rd_T120 l0 x8_1).f0.f2), .bool ((rd_T120 l0 x8_1).f1), .string ((rd_T120 l0 x8_1).f2), .string ((rd_T120 l0 x8_1).f3), .string ((rd_T120 l0 x8_1).f4), .string ((rd_T120 l0 x8_1).f5), .bool ((rd_T120 l0 x8_1).f6)] 120 (0, 0)) (by (with_reducible repeat (first | refine blk_drewN ?_ _ | refine blk_drew ?_ | refine blk_alloc ?_ _)); refine blk_put (cs := #[.string ((rd_T120 l0 x8_1).f0.f0), .string ((rd_T120 l0 x8_1).f0.f1), .string ((rd_T120 l0 x8_1).f0.f2), .bool ((rd_T120 l0 x8_1).f1), .string ((rd_T120 l0 x8_1).f2), .string ((rd_T120 l0 x8_1).f3), .string ((rd_T120 l0 x8_1).f4), .string ((rd_T120 l0 x8_1).f5), .bool false]) ?_ 8 _ rfl; (with_reducible repeat (first | refine blk_drewN ?_ _ | refine blk_drew ?_ | refine blk_alloc ?_ _)); refine blk_put (cs := #[.string ((rd_T120 l0 x8_1).f0.f0), .string ((rd_T120 l0 x8_1).f0.f1), .string ((rd_T120 l0 x8_1).f0.f2), .bool ((rd_T120 l0 x8_1).f1), .string ((rd_T120 l0 x8_1).f2), .string ((rd_T120 l0 x8_1).f3), .string ((rd_T120 l0 x8_1).f4), .string (⟨#[]⟩ : ByteArray), .bool false]) ?_ 7 _ rfl; (with_reducible repeat (first | refine blk_drewN ?_ _ | refine blk_drew ?_ | refine blk_alloc ?_ _)); refine blk_put (cs := #[.string ((rd_T120 l0 x8_1).f0.f0), .string ((rd_T120 l0 x8_1).f0.f1), .string ((rd_T120 l0 x8_1).f0.f2), .bool ((rd_T120 l0 x8_1).f1), .string ((rd_T120 l0 x8_1).f2), .string ((rd_T120 l0 x8_1).f3), .string (⟨#[]⟩ : ByteArray), .string (⟨#[]⟩ : ByteArray), .bool false]) ?_ 6 _ rfl; (with_reducible repeat (first | refine blk_drewN ?_ _ | refine blk_drew ?_ | refine blk_alloc ?_ _)); refine blk_put (cs := #[.string ((rd_T120 l0 x8_1).f0.f0), .string ((rd_T120 l0 x8_1).f0.f1), .string ((rd_T120 l0 x8_1).f0.f2), .bool ((rd_T120 l0 x8_1).f1), .string ((rd_T120 l0 x8_1).f2), .string (⟨#[]⟩ : ByteArray), .string (⟨#[]⟩ : ByteArray), .string (⟨#[]⟩ : ByteArray), .bool false]) ?_ 5 _ rfl; (with_reducible repeat (first | refine blk_drewN ?_ _ | refine blk_drew ?_ | refine blk_alloc ?_ _)); refine blk_put (cs := #[.string ((rd_T120 l0 x8_1).f0.f0), .string ((rd_T120 l0 x8_1).f0.f1), .string ((rd_T120 l0 x8_1).f0.f2), .bool ((rd_T120 l0 x8_1).f1), .string (⟨#[]⟩ : ByteArray), .string (⟨#[]⟩ : ByteArray), .string (⟨#[]⟩ : ByteArray), .string (⟨#[]⟩ : ByteArray), .bool false]) ?_ 4 _ rfl; (with_reducible repeat (first | refine blk_drewN ?_ _ | refine blk_drew ?_ | refine blk_alloc ?_ _)); refine blk_put (cs := #[.string ((rd_T120 l0 x8_1).f0.f0), .string ((rd_T120 l0 x8_1).f0.f1), .string ((rd_T120 l0 x8_1).f0.f2), .bool false, .string (⟨#[]⟩ : ByteArray), .string (⟨#[]⟩ : ByteArray), .string (⟨#[]⟩ : ByteArray), .string (⟨#[]⟩ : ByteArray), .bool false]) ?_ 3 _ rfl; (with_reducible repeat (first | refine blk_drewN ?_ _ | refine blk_drew ?_ | refine blk_alloc ?_ _)); refine blk_put (cs := #[.string ((rd_T120 l0 x8_1).f0.f0), .string ((rd_T120 l0 x8_1).f0.f1), .string (⟨#[]⟩ : ByteArray), .bool false, .string (⟨#[]⟩ : ByteArray), .string (⟨#[]⟩ : ByteArray), .string (⟨#[]⟩ : ByteArray), .string (⟨#[]⟩ : ByteArray), .bool false]) ?_ 2 _ rfl; (with_reducible repeat (first | refine blk_drewN ?_ _ | refine blk_drew ?_ | refine blk_alloc ?_ _)); refine blk_put (cs := #[.string ((rd_T120 l0 x8_1).f0.f0), .string (⟨#[]⟩ : ByteArray), .string (⟨#[]⟩ : ByteArray), .bool false, .string (⟨#[]⟩ : ByteArray), .string (⟨#[]⟩ : ByteArray), .string (⟨#[]⟩ : ByteArray), .string (⟨#[]⟩ : ByteArray), .bool false]) ?_ 1 _ rfl; (with_reducible repeat (first | refine blk_drewN ?_ _ | refine blk_drew ?_ | refine blk_alloc ?_ _)); refine blk_put (cs := #[.string (⟨#[]⟩ : ByteArray), .string (⟨#[]⟩ : ByteArray), .string (⟨#[]⟩ : ByteArray), .bool false, .string (⟨#[]⟩ : ByteArray), .string (⟨#[]⟩ : ByteArray), .string (⟨#[]⟩ : ByteArray), .string (⟨#[]⟩ : ByteArray), .bool false]) ?_ 0 _ rfl; (with_reducible repeat (first | refine blk_drewN ?_ _ | refine blk_drew ?_ | refine blk_alloc ?_ _)); exact BK102.out) hb); have n1_ := Aside0.mk (below_step (by repeat (first | (with_reducible first | exact HB.out | apply below_alloc | apply pw_below_drewN | apply below_drew1 | refine below_set ?_ GE102.out) | exact HB.out)) hb); clear BK102; clear HB; have BK102 := n0_; have HB := n1_; clear n0_ n1_; (try clear hb); (try clear hb2); (try clear hk); (try clear hi); have hcz15_0 : w14.cell? ⟨gb102, 0, none⟩ = some (.string ((rd_T120 l0 x8_1).f0.f0)) := (blk_cell BK102.out 0).trans rfl; have hcz15_1 : w14.cell? ⟨gb102, 1, none⟩ = some (.string ((rd_T120 l0 x8_1).f0.f1)) := (blk_cell BK102.out 1).trans rfl; have hcz15_2 : w14.cell? ⟨gb102, 2, none⟩ = some (.string ((rd_T120 l0 x8_1).f0.f2)) := (blk_cell BK102.out 2).trans rfl; have hcz15_3 : w14.cell? ⟨gb102, 3, none⟩ = some (.bool ((rd_T120 l0 x8_1).f1)) := (blk_cell BK102.out 3).trans rfl; have hcz15_4 : w14.cell? ⟨gb102, 4, none⟩ = some (.string ((rd_T120 l0 x8_1).f2)) := (blk_cell BK102.out 4).trans rfl; have hcz15_5 : w14.cell? ⟨gb102, 5, none⟩ = some (.string ((rd_T120 l0 x8_1).f3)) := (blk_cell BK102.out 5).trans rfl; have hcz15_6 : w14.cell? ⟨gb102, 6, none⟩ = some (.string ((rd_T120 l0 x8_1).f4)) := (blk_cell BK102.out 6).trans rfl; have hcz15_7 : w14.cell? ⟨gb102, 7, none⟩ = some (.string ((rd_T120 l0 x8_1).f5)) := (blk_cell BK102.out 7).trans rfl; have hcz15_8 : w14.cell? ⟨gb102, 8, none⟩ = some (.bool ((rd_T120 l0 x8_1).f6)) := (blk_cell BK102.out 8).trans rfl; have hfz15_0 := blk_frozen BK102.out 0; have hfz15_1 := blk_frozen BK102.out 1; have hfz15_2 := blk_frozen BK102.out 2; have hfz15_3 := blk_frozen BK102.out 3; have hfz15_4 := blk_frozen BK102.out 4; have hfz15_5 := blk_frozen BK102.out 5; have hfz15_6 := blk_frozen BK102.out 6; have hfz15_7 := blk_frozen BK102.out 7; have hfz15_8 := blk_frozen BK102.out 8) | (go_at_call 115; (with_reducible refine (doc_Part_isConflict.calls ((rd_T120 l0 x8_1).f0.f0) ((rd_T120 l0 x8_1).f0.f1) ((rd_T120 l0 x8_1).f0.f2) ((rd_T120 l0 x8_1).f1) ((rd_T120 l0 x8_1).f2) ((rd_T120 l0 x8_1).f3) ((rd_T120 l0 x8_1).f4) ((rd_T120 l0 x8_1).f5) ((rd_T120 l0 x8_1).f6) t104 _ A12.out).mono ?_); rintro e w16 ⟨rfl, hb⟩; have n0_ := Aside0.mk (blk_below (g := gb102) (o := .cells #[.string ((rd_T120 l0 x8_1).f0.f0), .string ((rd_T120 l0 x8_1).f0.f1), .string ((rd_T120 l0 x8_1).f0.f2), .bool ((rd_T120 l0 x8_1).f1), .string ((rd_T120 l0 x8_1).f2), .string ((rd_T120 l0 x8_1).f3), .string ((rd_T120 l0 x8_1).f4), .string ((rd_T120 l0 x8_1).f5), .bool ((rd_T120 l0 x8_1).f6)] 120 (0, 0)) (by (with_reducible repeat (first | refine blk_drewN ?_ _ | refine blk_drew ?_ | refine blk_alloc ?_ _)); exact BK102.out) hb); have n1_ := Aside0.mk (below_step (by repeat (first | (with_reducible first | exact HB.out | apply below_alloc | apply pw_below_drewN | apply below_drew1 | refine below_set ?_ GE102.out) | exact HB.out)) hb); clear BK102; clear HB; have BK102 := n0_; have HB := n1_; clear n0_ n1_; (try clear hb); (try clear hb2); (try clear hk); (try clear hi)))
        go_meet
        case rel => exact ⟨_, (!t104), (by first | rfl | (simp; done) | (simp [*]; done)), H', ⟨by have := HK1.out; first | omega | exact Nat.le_refl _⟩, ⟨by (with_reducible repeat (first | refine blk_drewN ?_ _ | refine blk_drew ?_ | refine blk_alloc ?_ _)); exact BK102.out⟩, ⟨by repeat (first | (with_reducible first | exact HB.out | apply below_alloc | apply pw_below_drewN | apply below_drew1 | refine below_set ?_ GE102.out) | exact HB.out)⟩⟩
      case rest =>
       clear HC5
       try clear c1
       try clear p1
       try clear q1
       try clear hx1
       try clear c2
       try clear c2b0
       try clear p2
       try clear c3
       try clear c3b0
       try clear c4
       try clear c4b0
       try clear c7
       try clear c9
       try clear p10
       try clear q10
       try clear hx10
       try clear c11
       try clear hcz10_0
       try clear hcz10_1
       try clear hcz10_2
       try clear hcz10_3
       try clear hcz10_4
       try clear hcz10_5
       try clear hcz10_6
       try clear hcz10_7
       try clear hcz10_8
       try clear hcz13_0
       try clear hcz13_1
       try clear hcz13_2
       try clear hcz13_3
       try clear hcz13_4
       try clear hcz13_5
       try clear hcz13_6
       try clear hcz13_7
       try clear hcz13_8
       try clear hcz15_0
       try clear hcz15_1
       try clear hcz15_2
       try clear hcz15_3
       try clear hcz15_4
       try clear hcz15_5
       try clear hcz15_6
       try clear hcz15_7
       try clear hcz15_8
       try clear hcz7_0
       try clear hcz7_1
       try clear hcz7_2
       try clear hcz7_3
       try clear hcz7_4
       try clear hcz7_5
       try clear hcz7_6
       try clear hcz7_7
       try clear hcz7_8
       try clear hfz10_0
       try clear hfz10_1
       try clear hfz10_2
       try clear hfz10_3
       try clear hfz10_4
       try clear hfz10_5
       try clear hfz10_6
       try clear hfz10_7
       try clear hfz10_8
       try clear hfz13_0
       try clear hfz13_1
       try clear hfz13_2
       try clear hfz13_3
       try clear hfz13_4
       try clear hfz13_5
       try clear hfz13_6
       try clear hfz13_7
       try clear hfz13_8
       try clear hfz15_0
       try clear hfz15_1
       try clear hfz15_2
       try clear hfz15_3
       try clear hfz15_4
       try clear hfz15_5
       try clear hfz15_6
       try clear hfz15_7
       try clear hfz15_8
       try clear hfz7_0
       try clear hfz7_1
       try clear hfz7_2
       try clear hfz7_3
       try clear hfz7_4
       try clear hfz7_5
       try clear hfz7_6
       try clear hfz7_7
       try clear hfz7_8
       try clear hx101_0
       try clear hx101_1
       try clear hx101_2
       try clear hx101_3
       try clear hx101_4
       try clear hx101_5
       try clear hx101_6
       try clear hx101_7
       try clear hx101_8
       try clear p101
       try clear q101
       obtain ⟨kq, x13_4, rfl, HA, HJ4, BK102, HB⟩ := hcut
       cases kq with
       | zero => exact absurd HA.out (by simp [doc_Doc_Right.j1])
       | succ kj4 =>
        have H := HA.out
        clear HA
        simp only [doc_Doc_Right.j1] at H
        have HC17 := Aside0.mk H
        clear H
        go_upto_if 13 with (fail)
        go_cut [13] (fun v13 wc => ∃ (kq : Nat) (x13_16 : Bool), v13 = .bool x13_16 ∧ Aside0 (doc_Doc_Right.j2 kq l0 x3_1 x8_1 l0 (l0.length : Int) x8_1 x13_16 ((rd_T120 l0 x8_1).f0.f0) ((rd_T120 l0 x8_1).f0.f1) ((rd_T120 l0 x8_1).f0.f2) ((rd_T120 l0 x8_1).f1) ((rd_T120 l0 x8_1).f2) ((rd_T120 l0 x8_1).f3) ((rd_T120 l0 x8_1).f4) ((rd_T120 l0 x8_1).f5) ((rd_T120 l0 x8_1).f6) = some r) ∧ Aside0 (kq ≤ kj4) ∧ Aside0 (wc.heap[gb102]? = some (.cells #[.string ((rd_T120 l0 x8_1).f0.f0), .string ((rd_T120 l0 x8_1).f0.f1), .string ((rd_T120 l0 x8_1).f0.f2), .bool ((rd_T120 l0 x8_1).f1), .string ((rd_T120 l0 x8_1).f2), .string ((rd_T120 l0 x8_1).f3), .string ((rd_T120 l0 x8_1).f4), .string ((rd_T120 l0 x8_1).f5), .bool ((rd_T120 l0 x8_1).f6)] 120 (0, 0))) ∧ Aside0 (Below w.heap.size w wc))
        case first =>
         have H := HC17.out
         clear HC17
         by_cases c18 : x13_4 = true
         ·subst c18
          have H1 : (doc_Doc_Right.j2 kj4 l0 x3_1 x8_1 l0 (l0.length : Int) x8_1 true ((rd_T120 l0 x8_1).f0.f0) ((rd_T120 l0 x8_1).f0.f1) ((rd_T120 l0 x8_1).f0.f2) ((rd_T120 l0 x8_1).f1) ((rd_T120 l0 x8_1).f2) ((rd_T120 l0 x8_1).f3) ((rd_T120 l0 x8_1).f4) ((rd_T120 l0 x8_1).f5) ((rd_T120 l0 x8_1).f6)) = some r := by rw [if_pos rfl] at H; exact H
          clear H
          have H := H1
          clear H1
          have H' := Aside0.mk H
          clear H
          go_wp2
          go_meet
          case rel => exact ⟨_, (true), (by first | rfl | (simp; done) | (simp [*]; done)), H', ⟨by have := HK1.out; have := HJ4.out; first | omega | exact Nat.le_refl _⟩, ⟨by (with_reducible repeat (first | refine blk_drewN ?_ _ | refine blk_drew ?_ | refine blk_alloc ?_ _)); exact BK102.out⟩, ⟨by repeat (first | (with_reducible first | exact HB.out | apply below_alloc | apply pw_below_drewN | apply below_drew1 | refine below_set ?_ GE102.out) | exact HB.out)⟩⟩
         ·replace c18 := Bool.eq_false_iff.mpr c18
          subst c18
          have H1 : ((doc_Labels_Plain.f kj4 ((rd_T120 l0 x8_1).f0.f0) ((rd_T120 l0 x8_1).f0.f1) ((rd_T120 l0 x8_1).f0.f2)).bind fun t105 => (doc_Doc_Right.j2 kj4 l0 x3_1 x8_1 l0 (l0.length : Int) x8_1 (!t105) ((rd_T120 l0 x8_1).f0.f0) ((rd_T120 l0 x8_1).f0.f1) ((rd_T120 l0 x8_1).f0.f2) ((rd_T120 l0 x8_1).f1) ((rd_T120 l0 x8_1).f2) ((rd_T120 l0 x8_1).f3) ((rd_T120 l0 x8_1).f4) ((rd_T120 l0 x8_1).f5) ((rd_T120 l0 x8_1).f6))) = some r := by rw [if_neg (show ¬ (false = true) by decide)] at H; exact H
          clear H
          have H := H1
          clear H1
          replace H := Option.bind_eq_some_iff.mp H
          obtain ⟨t105, A190, H⟩ := H
          replace H : (doc_Doc_Right.j2 kj4 l0 x3_1 x8_1 l0 (l0.length : Int) x8_1 (!t105) ((rd_T120 l0 x8_1).f0.f0) ((rd_T120 l0 x8_1).f0.f1) ((rd_T120 l0 x8_1).f0.f2) ((rd_T120 l0 x8_1).f1) ((rd_T120 l0 x8_1).f2) ((rd_T120 l0 x8_1).f3) ((rd_T120 l0 x8_1).f4) ((rd_T120 l0 x8_1).f5) ((rd_T120 l0 x8_1).f6)) = some r := H
          have A19 := Aside0.mk A190
          clear A190
          have H' := Aside0.mk H
          clear H
          have hcz20_0 : wc.cell? ⟨gb102, 0, none⟩ = some (.string ((rd_T120 l0 x8_1).f0.f0)) := (blk_cell BK102.out 0).trans rfl
          have hcz20_1 : wc.cell? ⟨gb102, 1, none⟩ = some (.string ((rd_T120 l0 x8_1).f0.f1)) := (blk_cell BK102.out 1).trans rfl
          have hcz20_2 : wc.cell? ⟨gb102, 2, none⟩ = some (.string ((rd_T120 l0 x8_1).f0.f2)) := (blk_cell BK102.out 2).trans rfl
          have hcz20_3 : wc.cell? ⟨gb102, 3, none⟩ = some (.bool ((rd_T120 l0 x8_1).f1)) := (blk_cell BK102.out 3).trans rfl
          have hcz20_4 : wc.cell? ⟨gb102, 4, none⟩ = some (.string ((rd_T120 l0 x8_1).f2)) := (blk_cell BK102.out 4).trans rfl
          have hcz20_5 : wc.cell? ⟨gb102, 5, none⟩ = some (.string ((rd_T120 l0 x8_1).f3)) := (blk_cell BK102.out 5).trans rfl
          have hcz20_6 : wc.cell? ⟨gb102, 6, none⟩ = some (.string ((rd_T120 l0 x8_1).f4)) := (blk_cell BK102.out 6).trans rfl
          have hcz20_7 : wc.cell? ⟨gb102, 7, none⟩ = some (.string ((rd_T120 l0 x8_1).f5)) := (blk_cell BK102.out 7).trans rfl
          have hcz20_8 : wc.cell? ⟨gb102, 8, none⟩ = some (.bool ((rd_T120 l0 x8_1).f6)) := (blk_cell BK102.out 8).trans rfl
          have hfz20_0 := blk_frozen BK102.out 0
          have hfz20_1 := blk_frozen BK102.out 1
          have hfz20_2 := blk_frozen BK102.out 2
          have hfz20_3 := blk_frozen BK102.out 3
          have hfz20_4 := blk_frozen BK102.out 4
          have hfz20_5 := blk_frozen BK102.out 5
          have hfz20_6 := blk_frozen BK102.out 6
          have hfz20_7 := blk_frozen BK102.out 7
          have hfz20_8 := blk_frozen BK102.out 8
          go_wp2_with (first | ((with_reducible refine gate_callee (f := 116) rfl ?_); refine goesL_ (some 24) rfl rfl Try.func116 (by kernel_rfl) rfl #[.agg #[.string ((rd_T120 l0 x8_1).f0.f0), .string ((rd_T120 l0 x8_1).f0.f1), .string ((rd_T120 l0 x8_1).f0.f2)]] rfl (by (try simp only [List.map_toArray, List.map_cons, List.map_nil]); first | done | rfl | (simp only [List.length_drop, List.length_take]; rfl)) ?_; (with_reducible refine (doc_Labels_Plain.calls kj4 ((rd_T120 l0 x8_1).f0.f0) ((rd_T120 l0 x8_1).f0.f1) ((rd_T120 l0 x8_1).f0.f2) t105 _ A19.out).mono ?_); rintro e w21 ⟨rfl, hb⟩; refine ⟨_, rfl, ?_⟩; have n0_ := Aside0.mk (blk_below (g := gb102) (o := .cells #[.string ((rd_T120 l0 x8_1).f0.f0), .string ((rd_T120 l0 x8_1).f0.f1), .string ((rd_T120 l0 x8_1).f0.f2), .bool ((rd_T120 l0 x8_1).f1), .string ((rd_T120 l0 x8_1).f2), .string ((rd_T120 l0 x8_1).f3), .string ((rd_T120 l0 x8_1).f4), .string ((rd_T120 l0 x8_1).f5), .bool ((rd_T120 l0 x8_1).f6)] 120 (0, 0)) (by (with_reducible repeat (first | refine blk_drewN ?_ _ | refine blk_drew ?_ | refine blk_alloc ?_ _)); exact BK102.out) hb); have n1_ := Aside0.mk (below_step (by repeat (first | (with_reducible first | exact HB.out | apply below_alloc | apply pw_below_drewN | apply below_drew1 | refine below_set ?_ GE102.out) | exact HB.out)) hb); clear BK102; clear HB; have BK102 := n0_; have HB := n1_; clear n0_ n1_; (try clear hb); (try clear hb2); (try clear hk); (try clear hi)))
          go_meet
          case rel => exact ⟨_, (!t105), (by first | rfl | (simp; done) | (simp [*]; done)), H', ⟨by have := HK1.out; have := HJ4.out; first | omega | exact Nat.le_refl _⟩, ⟨by (with_reducible repeat (first | refine blk_drewN ?_ _ | refine blk_drew ?_ | refine blk_alloc ?_ _)); exact BK102.out⟩, ⟨by repeat (first | (with_reducible first | exact HB.out | apply below_alloc | apply pw_below_drewN | apply below_drew1 | refine below_set ?_ GE102.out) | exact HB.out)⟩⟩
        case rest =>
         clear HC17
         try clear c1
         try clear p1
         try clear q1
         try clear hx1
         try clear c2
         try clear c2b0
         try clear p2
         try clear c3
         try clear c3b0
         try clear c4
         try clear c4b0
         try clear c7
         try clear c9
         try clear p10
         try clear q10
         try clear hx10
         try clear c11
         try clear c18
         try clear hcz10_0
         try clear hcz10_1
         try clear hcz10_2
         try clear hcz10_3
         try clear hcz10_4
         try clear hcz10_5
         try clear hcz10_6
         try clear hcz10_7
         try clear hcz10_8
         try clear hcz13_0
         try clear hcz13_1
         try clear hcz13_2
         try clear hcz13_3
         try clear hcz13_4
         try clear hcz13_5
         try clear hcz13_6
         try clear hcz13_7
         try clear hcz13_8
         try clear hcz15_0
         try clear hcz15_1
         try clear hcz15_2
         try clear hcz15_3
         try clear hcz15_4
         try clear hcz15_5
         try clear hcz15_6
         try clear hcz15_7
         try clear hcz15_8
         try clear hcz20_0
         try clear hcz20_1
         try clear hcz20_2
         try clear hcz20_3
         try clear hcz20_4
         try clear hcz20_5
         try clear hcz20_6
         try clear hcz20_7
         try clear hcz20_8
         try clear hcz7_0
         try clear hcz7_1
         try clear hcz7_2
         try clear hcz7_3
         try clear hcz7_4
         try clear hcz7_5
         try clear hcz7_6
         try clear hcz7_7
         try clear hcz7_8
         try clear hfz10_0
         try clear hfz10_1
         try clear hfz10_2
         try clear hfz10_3
         try clear hfz10_4
         try clear hfz10_5
         try clear hfz10_6
         try clear hfz10_7
         try clear hfz10_8
         try clear hfz13_0
         try clear hfz13_1
         try clear hfz13_2
         try clear hfz13_3
         try clear hfz13_4
         try clear hfz13_5
         try clear hfz13_6
         try clear hfz13_7
         try clear hfz13_8
         try clear hfz15_0
         try clear hfz15_1
         try clear hfz15_2
         try clear hfz15_3
         try clear hfz15_4
         try clear hfz15_5
         try clear hfz15_6
         try clear hfz15_7
         try clear hfz15_8
         try clear hfz20_0
         try clear hfz20_1
         try clear hfz20_2
         try clear hfz20_3
         try clear hfz20_4
         try clear hfz20_5
         try clear hfz20_6
         try clear hfz20_7
         try clear hfz20_8
         try clear hfz7_0
         try clear hfz7_1
         try clear hfz7_2
         try clear hfz7_3
         try clear hfz7_4
         try clear hfz7_5
         try clear hfz7_6
         try clear hfz7_7
         try clear hfz7_8
         try clear hx101_0
         try clear hx101_1
         try clear hx101_2
         try clear hx101_3
         try clear hx101_4
         try clear hx101_5
         try clear hx101_6
         try clear hx101_7
         try clear hx101_8
         try clear p1
         try clear p10
         try clear p101
         try clear p2
         try clear q1
         try clear q10
         try clear q101
         obtain ⟨kq, x13_16, rfl, HA, HJ16, BK102, HB⟩ := hcut
         cases kq with
         | zero => exact absurd HA.out (by simp [doc_Doc_Right.j2])
         | succ kj16 =>
          have H := HA.out
          clear HA
          simp only [doc_Doc_Right.j2] at H
          by_cases c22 : x13_16 = true
          ·subst c22
           have H1 : (some false) = some r := by rw [if_pos rfl] at H; exact H
           clear H
           have H := H1
           clear H1
           obtain rfl := Option.some.inj H
           go_wp2
           go_ret
           exact ⟨by first | rfl | (simp [errW_none, errW_some] <;> rfl) | (simp [*, errW_none, errW_some] <;> rfl), by repeat (first | (with_reducible first | exact HB.out | apply below_alloc | apply pw_below_drewN | apply below_drew1 | refine below_set ?_ GE102.out) | exact HB.out)⟩
          ·replace c22 := Bool.eq_false_iff.mpr c22
           subst c22
           have H1 : ((doc_Part_isText.f ((rd_T120 l0 x8_1).f0.f0) ((rd_T120 l0 x8_1).f0.f1) ((rd_T120 l0 x8_1).f0.f2) ((rd_T120 l0 x8_1).f1) ((rd_T120 l0 x8_1).f2) ((rd_T120 l0 x8_1).f3) ((rd_T120 l0 x8_1).f4) ((rd_T120 l0 x8_1).f5) ((rd_T120 l0 x8_1).f6)).bind fun t106 => (if t106 = true then (if x3_1 = true then (some false) else (if ((rd_T120 l0 x8_1).f2).toList = ([] : List UInt8) then (some false) else (if x8_1 < (wrap64 ((l0.length : Int) - 1)) then ((strings_HasSuffix.f ((rd_T120 l0 x8_1).f2) (⟨#[10]⟩ : ByteArray)).bind fun t107 => (if t107 = true then ((doc_Part_isText.f ((rd_T120 l0 x8_1).f0.f0) ((rd_T120 l0 x8_1).f0.f1) ((rd_T120 l0 x8_1).f0.f2) ((rd_T120 l0 x8_1).f1) ((rd_T120 l0 x8_1).f2) ((rd_T120 l0 x8_1).f3) ((rd_T120 l0 x8_1).f4) ((rd_T120 l0 x8_1).f5) ((rd_T120 l0 x8_1).f6)).bind fun t108 => (doc_Doc_Right.l0 kj16 l0 t108 l0 (l0.length : Int) (wrap64 (x8_1 + 1)))) else (some false))) else ((doc_Part_isText.f ((rd_T120 l0 x8_1).f0.f0) ((rd_T120 l0 x8_1).f0.f1) ((rd_T120 l0 x8_1).f0.f2) ((rd_T120 l0 x8_1).f1) ((rd_T120 l0 x8_1).f2) ((rd_T120 l0 x8_1).f3) ((rd_T120 l0 x8_1).f4) ((rd_T120 l0 x8_1).f5) ((rd_T120 l0 x8_1).f6)).bind fun t109 => (doc_Doc_Right.l0 kj16 l0 t109 l0 (l0.length : Int) (wrap64 (x8_1 + 1))))))) else ((doc_Part_isText.f ((rd_T120 l0 x8_1).f0.f0) ((rd_T120 l0 x8_1).f0.f1) ((rd_T120 l0 x8_1).f0.f2) ((rd_T120 l0 x8_1).f1) ((rd_T120 l0 x8_1).f2) ((rd_T120 l0 x8_1).f3) ((rd_T120 l0 x8_1).f4) ((rd_T120 l0 x8_1).f5) ((rd_T120 l0 x8_1).f6)).bind fun t110 => (doc_Doc_Right.l0 kj16 l0 t110 l0 (l0.length : Int) (wrap64 (x8_1 + 1)))))) = some r := by rw [if_neg (show ¬ (false = true) by decide)] at H; exact H
           clear H
           have H := H1
           clear H1
           replace H := Option.bind_eq_some_iff.mp H
           obtain ⟨t106, A230, H⟩ := H
           replace H : (if t106 = true then (if x3_1 = true then (some false) else (if ((rd_T120 l0 x8_1).f2).toList = ([] : List UInt8) then (some false) else (if x8_1 < (wrap64 ((l0.length : Int) - 1)) then ((strings_HasSuffix.f ((rd_T120 l0 x8_1).f2) (⟨#[10]⟩ : ByteArray)).bind fun t107 => (if t107 = true then ((doc_Part_isText.f ((rd_T120 l0 x8_1).f0.f0) ((rd_T120 l0 x8_1).f0.f1) ((rd_T120 l0 x8_1).f0.f2) ((rd_T120 l0 x8_1).f1) ((rd_T120 l0 x8_1).f2) ((rd_T120 l0 x8_1).f3) ((rd_T120 l0 x8_1).f4) ((rd_T120 l0 x8_1).f5) ((rd_T120 l0 x8_1).f6)).bind fun t108 => (doc_Doc_Right.l0 kj16 l0 t108 l0 (l0.length : Int) (wrap64 (x8_1 + 1)))) else (some false))) else ((doc_Part_isText.f ((rd_T120 l0 x8_1).f0.f0) ((rd_T120 l0 x8_1).f0.f1) ((rd_T120 l0 x8_1).f0.f2) ((rd_T120 l0 x8_1).f1) ((rd_T120 l0 x8_1).f2) ((rd_T120 l0 x8_1).f3) ((rd_T120 l0 x8_1).f4) ((rd_T120 l0 x8_1).f5) ((rd_T120 l0 x8_1).f6)).bind fun t109 => (doc_Doc_Right.l0 kj16 l0 t109 l0 (l0.length : Int) (wrap64 (x8_1 + 1))))))) else ((doc_Part_isText.f ((rd_T120 l0 x8_1).f0.f0) ((rd_T120 l0 x8_1).f0.f1) ((rd_T120 l0 x8_1).f0.f2) ((rd_T120 l0 x8_1).f1) ((rd_T120 l0 x8_1).f2) ((rd_T120 l0 x8_1).f3) ((rd_T120 l0 x8_1).f4) ((rd_T120 l0 x8_1).f5) ((rd_T120 l0 x8_1).f6)).bind fun t110 => (doc_Doc_Right.l0 kj16 l0 t110 l0 (l0.length : Int) (wrap64 (x8_1 + 1))))) = some r := H
           have A23 := Aside0.mk A230
           clear A230
           by_cases c24 : t106 = true
           ·subst c24
            have H1 : (if x3_1 = true then (some false) else (if ((rd_T120 l0 x8_1).f2).toList = ([] : List UInt8) then (some false) else (if x8_1 < (wrap64 ((l0.length : Int) - 1)) then ((strings_HasSuffix.f ((rd_T120 l0 x8_1).f2) (⟨#[10]⟩ : ByteArray)).bind fun t107 => (if t107 = true then ((doc_Part_isText.f ((rd_T120 l0 x8_1).f0.f0) ((rd_T120 l0 x8_1).f0.f1) ((rd_T120 l0 x8_1).f0.f2) ((rd_T120 l0 x8_1).f1) ((rd_T120 l0 x8_1).f2) ((rd_T120 l0 x8_1).f3) ((rd_T120 l0 x8_1).f4) ((rd_T120 l0 x8_1).f5) ((rd_T120 l0 x8_1).f6)).bind fun t108 => (doc_Doc_Right.l0 kj16 l0 t108 l0 (l0.length : Int) (wrap64 (x8_1 + 1)))) else (some false))) else ((doc_Part_isText.f ((rd_T120 l0 x8_1).f0.f0) ((rd_T120 l0 x8_1).f0.f1) ((rd_T120 l0 x8_1).f0.f2) ((rd_T120 l0 x8_1).f1) ((rd_T120 l0 x8_1).f2) ((rd_T120 l0 x8_1).f3) ((rd_T120 l0 x8_1).f4) ((rd_T120 l0 x8_1).f5) ((rd_T120 l0 x8_1).f6)).bind fun t109 => (doc_Doc_Right.l0 kj16 l0 t109 l0 (l0.length : Int) (wrap64 (x8_1 + 1))))))) = some r := by rw [if_pos rfl] at H; exact H
            clear H
            have H := H1
            clear H1
            by_cases c25 : x3_1 = true
            ·subst c25
             have H1 : (some false) = some r := by rw [if_pos rfl] at H; exact H
             clear H
             have H := H1
             clear H1
             obtain rfl := Option.some.inj H
             have hcz26_0 : wc.cell? ⟨gb102, 0, none⟩ = some (.string ((rd_T120 l0 x8_1).f0.f0)) := (blk_cell BK102.out 0).trans rfl
             have hcz26_1 : wc.cell? ⟨gb102, 1, none⟩ = some (.string ((rd_T120 l0 x8_1).f0.f1)) := (blk_cell BK102.out 1).trans rfl
             have hcz26_2 : wc.cell? ⟨gb102, 2, none⟩ = some (.string ((rd_T120 l0 x8_1).f0.f2)) := (blk_cell BK102.out 2).trans rfl
             have hcz26_3 : wc.cell? ⟨gb102, 3, none⟩ = some (.bool ((rd_T120 l0 x8_1).f1)) := (blk_cell BK102.out 3).trans rfl
             have hcz26_4 : wc.cell? ⟨gb102, 4, none⟩ = some (.string ((rd_T120 l0 x8_1).f2)) := (blk_cell BK102.out 4).trans rfl
             have hcz26_5 : wc.cell? ⟨gb102, 5, none⟩ = some (.string ((rd_T120 l0 x8_1).f3)) := (blk_cell BK102.out 5).trans rfl
             have hcz26_6 : wc.cell? ⟨gb102, 6, none⟩ = some (.string ((rd_T120 l0 x8_1).f4)) := (blk_cell BK102.out 6).trans rfl
             have hcz26_7 : wc.cell? ⟨gb102, 7, none⟩ = some (.string ((rd_T120 l0 x8_1).f5)) := (blk_cell BK102.out 7).trans rfl
             have hcz26_8 : wc.cell? ⟨gb102, 8, none⟩ = some (.bool ((rd_T120 l0 x8_1).f6)) := (blk_cell BK102.out 8).trans rfl
             have hfz26_0 := blk_frozen BK102.out 0
             have hfz26_1 := blk_frozen BK102.out 1
             have hfz26_2 := blk_frozen BK102.out 2
             have hfz26_3 := blk_frozen BK102.out 3
             have hfz26_4 := blk_frozen BK102.out 4
             have hfz26_5 := blk_frozen BK102.out 5
             have hfz26_6 := blk_frozen BK102.out 6
             have hfz26_7 := blk_frozen BK102.out 7
             have hfz26_8 := blk_frozen BK102.out 8
             go_wp2_with (first | ((with_reducible refine gate_callee (f := 114) rfl ?_); refine goesL_ (some 28) rfl rfl Try.func114 (by kernel_rfl) rfl #[.agg #[.string ((rd_T120 l0 x8_1).f0.f0), .string ((rd_T120 l0 x8_1).f0.f1), .string ((rd_T120 l0 x8_1).f0.f2), .bool ((rd_T120 l0 x8_1).f1), .string ((rd_T120 l0 x8_1).f2), .string ((rd_T120 l0 x8_1).f3), .string ((rd_T120 l0 x8_1).f4), .string ((rd_T120 l0 x8_1).f5), .bool ((rd_T120 l0 x8_1).f6)]] rfl (by (try simp only [List.map_toArray, List.map_cons, List.map_nil]); first | done | rfl | (simp only [List.length_drop, List.length_take]; rfl)) ?_; (with_reducible refine (doc_Part_isText.calls ((rd_T120 l0 x8_1).f0.f0) ((rd_T120 l0 x8_1).f0.f1) ((rd_T120 l0 x8_1).f0.f2) ((rd_T120 l0 x8_1).f1) ((rd_T120 l0 x8_1).f2) ((rd_T120 l0 x8_1).f3) ((rd_T120 l0 x8_1).f4) ((rd_T120 l0 x8_1).f5) ((rd_T120 l0 x8_1).f6) true _ A23.out).mono ?_); rintro e w27 ⟨rfl, hb⟩; refine ⟨_, rfl, ?_⟩; have n0_ := Aside0.mk (blk_below (g := gb102) (o := .cells #[.string ((rd_T120 l0 x8_1).f0.f0), .string ((rd_T120 l0 x8_1).f0.f1), .string ((rd_T120 l0 x8_1).f0.f2), .bool ((rd_T120 l0 x8_1).f1), .string ((rd_T120 l0 x8_1).f2), .string ((rd_T120 l0 x8_1).f3), .string ((rd_T120 l0 x8_1).f4), .string ((rd_T120 l0 x8_1).f5), .bool ((rd_T120 l0 x8_1).f6)] 120 (0, 0)) (by (with_reducible repeat (first | refine blk_drewN ?_ _ | refine blk_drew ?_ | refine blk_alloc ?_ _)); exact BK102.out) hb); have n1_ := Aside0.mk (below_step (by repeat (first | (with_reducible first | exact HB.out | apply below_alloc | apply pw_below_drewN | apply below_drew1 | refine below_set ?_ GE102.out) | exact HB.out)) hb); clear BK102; clear HB; have BK102 := n0_; have HB := n1_; clear n0_ n1_; (try clear hb); (try clear hb2); (try clear hk); (try clear hi)))
             go_ret
             exact ⟨by first | rfl | (simp [errW_none, errW_some] <;> rfl) | (simp [*, errW_none, errW_some] <;> rfl), by repeat (first | (with_reducible first | exact HB.out | apply below_alloc | apply pw_below_drewN | apply below_drew1 | refine below_set ?_ GE102.out) | exact HB.out)⟩
            ·replace c25 := Bool.eq_false_iff.mpr c25
             subst c25
             have H1 : (if ((rd_T120 l0 x8_1).f2).toList = ([] : List UInt8) then (some false) else (if x8_1 < (wrap64 ((l0.length : Int) - 1)) then ((strings_HasSuffix.f ((rd_T120 l0 x8_1).f2) (⟨#[10]⟩ : ByteArray)).bind fun t107 => (if t107 = true then ((doc_Part_isText.f ((rd_T120 l0 x8_1).f0.f0) ((rd_T120 l0 x8_1).f0.f1) ((rd_T120 l0 x8_1).f0.f2) ((rd_T120 l0 x8_1).f1) ((rd_T120 l0 x8_1).f2) ((rd_T120 l0 x8_1).f3) ((rd_T120 l0 x8_1).f4) ((rd_T120 l0 x8_1).f5) ((rd_T120 l0 x8_1).f6)).bind fun t108 => (doc_Doc_Right.l0 kj16 l0 t108 l0 (l0.length : Int) (wrap64 (x8_1 + 1)))) else (some false))) else ((doc_Part_isText.f ((rd_T120 l0 x8_1).f0.f0) ((rd_T120 l0 x8_1).f0.f1) ((rd_T120 l0 x8_1).f0.f2) ((rd_T120 l0 x8_1).f1) ((rd_T120 l0 x8_1).f2) ((rd_T120 l0 x8_1).f3) ((rd_T120 l0 x8_1).f4) ((rd_T120 l0 x8_1).f5) ((rd_T120 l0 x8_1).f6)).bind fun t109 => (doc_Doc_Right.l0 kj16 l0 t109 l0 (l0.length : Int) (wrap64 (x8_1 + 1)))))) = some r := by rw [if_neg (show ¬ (false = true) by decide)] at H; exact H
             clear H
             have H := H1
             clear H1
             by_cases c28 : ((rd_T120 l0 x8_1).f2).toList = ([] : List UInt8)
             ·rw [if_pos c28] at H
              have c28b0 : (((rd_T120 l0 x8_1).f2).toList == ([] : List UInt8)) = true := beq_iff_eq.mpr c28
              have c28b1 : (((rd_T120 l0 x8_1).f2).toList != ([] : List UInt8)) = false := bne_eq_false_iff_eq.mpr c28
              clear c28
              obtain rfl := Option.some.inj H
              have hcz29_0 : wc.cell? ⟨gb102, 0, none⟩ = some (.string ((rd_T120 l0 x8_1).f0.f0)) := (blk_cell BK102.out 0).trans rfl
              have hcz29_1 : wc.cell? ⟨gb102, 1, none⟩ = some (.string ((rd_T120 l0 x8_1).f0.f1)) := (blk_cell BK102.out 1).trans rfl
              have hcz29_2 : wc.cell? ⟨gb102, 2, none⟩ = some (.string ((rd_T120 l0 x8_1).f0.f2)) := (blk_cell BK102.out 2).trans rfl
              have hcz29_3 : wc.cell? ⟨gb102, 3, none⟩ = some (.bool ((rd_T120 l0 x8_1).f1)) := (blk_cell BK102.out 3).trans rfl
              have hcz29_4 : wc.cell? ⟨gb102, 4, none⟩ = some (.string ((rd_T120 l0 x8_1).f2)) := (blk_cell BK102.out 4).trans rfl
              have hcz29_5 : wc.cell? ⟨gb102, 5, none⟩ = some (.string ((rd_T120 l0 x8_1).f3)) := (blk_cell BK102.out 5).trans rfl
              have hcz29_6 : wc.cell? ⟨gb102, 6, none⟩ = some (.string ((rd_T120 l0 x8_1).f4)) := (blk_cell BK102.out 6).trans rfl
              have hcz29_7 : wc.cell? ⟨gb102, 7, none⟩ = some (.string ((rd_T120 l0 x8_1).f5)) := (blk_cell BK102.out 7).trans rfl
              have hcz29_8 : wc.cell? ⟨gb102, 8, none⟩ = some (.bool ((rd_T120 l0 x8_1).f6)) := (blk_cell BK102.out 8).trans rfl
              have hfz29_0 := blk_frozen BK102.out 0
              have hfz29_1 := blk_frozen BK102.out 1
              have hfz29_2 := blk_frozen BK102.out 2
              have hfz29_3 := blk_frozen BK102.out 3
              have hfz29_4 := blk_frozen BK102.out 4
              have hfz29_5 := blk_frozen BK102.out 5
              have hfz29_6 := blk_frozen BK102.out 6
              have hfz29_7 := blk_frozen BK102.out 7
              have hfz29_8 := blk_frozen BK102.out 8
              go_wp2_with (first | ((with_reducible refine gate_callee (f := 114) rfl ?_); refine goesL_ (some 28) rfl rfl Try.func114 (by kernel_rfl) rfl #[.agg #[.string ((rd_T120 l0 x8_1).f0.f0), .string ((rd_T120 l0 x8_1).f0.f1), .string ((rd_T120 l0 x8_1).f0.f2), .bool ((rd_T120 l0 x8_1).f1), .string ((rd_T120 l0 x8_1).f2), .string ((rd_T120 l0 x8_1).f3), .string ((rd_T120 l0 x8_1).f4), .string ((rd_T120 l0 x8_1).f5), .bool ((rd_T120 l0 x8_1).f6)]] rfl (by (try simp only [List.map_toArray, List.map_cons, List.map_nil]); first | done | rfl | (simp only [List.length_drop, List.length_take]; rfl)) ?_; (with_reducible refine (doc_Part_isText.calls ((rd_T120 l0 x8_1).f0.f0) ((rd_T120 l0 x8_1).f0.f1) ((rd_T120 l0 x8_1).f0.f2) ((rd_T120 l0 x8_1).f1) ((rd_T120 l0 x8_1).f2) ((rd_T120 l0 x8_1).f3) ((rd_T120 l0 x8_1).f4) ((rd_T120 l0 x8_1).f5) ((rd_T120 l0 x8_1).f6) true _ A23.out).mono ?_); rintro e w30 ⟨rfl, hb⟩; refine ⟨_, rfl, ?_⟩; have n0_ := Aside0.mk (blk_below (g := gb102) (o := .cells #[.string ((rd_T120 l0 x8_1).f0.f0), .string ((rd_T120 l0 x8_1).f0.f1), .string ((rd_T120 l0 x8_1).f0.f2), .bool ((rd_T120 l0 x8_1).f1), .string ((rd_T120 l0 x8_1).f2), .string ((rd_T120 l0 x8_1).f3), .string ((rd_T120 l0 x8_1).f4), .string ((rd_T120 l0 x8_1).f5), .bool ((rd_T120 l0 x8_1).f6)] 120 (0, 0)) (by (with_reducible repeat (first | refine blk_drewN ?_ _ | refine blk_drew ?_ | refine blk_alloc ?_ _)); exact BK102.out) hb); have n1_ := Aside0.mk (below_step (by repeat (first | (with_reducible first | exact HB.out | apply below_alloc | apply pw_below_drewN | apply below_drew1 | refine below_set ?_ GE102.out) | exact HB.out)) hb); clear BK102; clear HB; have BK102 := n0_; have HB := n1_; clear n0_ n1_; (try clear hb); (try clear hb2); (try clear hk); (try clear hi); have hcz31_0 : w30.cell? ⟨gb102, 0, none⟩ = some (.string ((rd_T120 l0 x8_1).f0.f0)) := (blk_cell BK102.out 0).trans rfl; have hcz31_1 : w30.cell? ⟨gb102, 1, none⟩ = some (.string ((rd_T120 l0 x8_1).f0.f1)) := (blk_cell BK102.out 1).trans rfl; have hcz31_2 : w30.cell? ⟨gb102, 2, none⟩ = some (.string ((rd_T120 l0 x8_1).f0.f2)) := (blk_cell BK102.out 2).trans rfl; have hcz31_3 : w30.cell? ⟨gb102, 3, none⟩ = some (.bool ((rd_T120 l0 x8_1).f1)) := (blk_cell BK102.out 3).trans rfl; have hcz31_4 : w30.cell? ⟨gb102, 4, none⟩ = some (.string ((rd_T120 l0 x8_1).f2)) := (blk_cell BK102.out 4).trans rfl; have hcz31_5 : w30.cell? ⟨gb102, 5, none⟩ = some (.string ((rd_T120 l0 x8_1).f3)) := (blk_cell BK102.out 5).trans rfl; have hcz31_6 : w30.cell? ⟨gb102, 6, none⟩ = some (.string ((rd_T120 l0 x8_1).f4)) := (blk_cell BK102.out 6).trans rfl; have hcz31_7 : w30.cell? ⟨gb102, 7, none⟩ = some (.string ((rd_T120 l0 x8_1).f5)) := (blk_cell BK102.out 7).trans rfl; have hcz31_8 : w30.cell? ⟨gb102, 8, none⟩ = some (.bool ((rd_T120 l0 x8_1).f6)) := (blk_cell BK102.out 8).trans rfl; have hfz31_0 := blk_frozen BK102.out 0; have hfz31_1 := blk_frozen BK102.out 1; have hfz31_2 := blk_frozen BK102.out 2; have hfz31_3 := blk_frozen BK102.out 3; have hfz31_4 := blk_frozen BK102.out 4; have hfz31_5 := blk_frozen BK102.out 5; have hfz31_6 := blk_frozen BK102.out 6; have hfz31_7 := blk_frozen BK102.out 7; have hfz31_8 := blk_frozen BK102.out 8))
              go_ret
              exact ⟨by first | rfl | (simp [errW_none, errW_some] <;> rfl) | (simp [*, errW_none, errW_some] <;> rfl), by repeat (first | (with_reducible first | exact HB.out | apply below_alloc | apply pw_below_drewN | apply below_drew1 | refine below_set ?_ GE102.out) | exact HB.out)⟩
             ·rw [if_neg c28] at H
              have c28b0 : (((rd_T120 l0 x8_1).f2).toList == ([] : List UInt8)) = false := beq_eq_false_iff_ne.mpr c28
              have c28b1 : (((rd_T120 l0 x8_1).f2).toList != ([] : List UInt8)) = true := bne_iff_ne.mpr c28
              by_cases c32 : x8_1 < (wrap64 ((l0.length : Int) - 1))
              ·rw [if_pos c32] at H
               have c32b0 : decide (x8_1 < (wrap64 ((l0.length : Int) - 1))) = true := decide_eq_true c32
               clear c32
               replace H := Option.bind_eq_some_iff.mp H
               obtain ⟨t107, A330, H⟩ := H
               replace H : (if t107 = true then ((doc_Part_isText.f ((rd_T120 l0 x8_1).f0.f0) ((rd_T120 l0 x8_1).f0.f1) ((rd_T120 l0 x8_1).f0.f2) ((rd_T120 l0 x8_1).f1) ((rd_T120 l0 x8_1).f2) ((rd_T120 l0 x8_1).f3) ((rd_T120 l0 x8_1).f4) ((rd_T120 l0 x8_1).f5) ((rd_T120 l0 x8_1).f6)).bind fun t108 => (doc_Doc_Right.l0 kj16 l0 t108 l0 (l0.length : Int) (wrap64 (x8_1 + 1)))) else (some false)) = some r := H
               have A33 := Aside0.mk A330
               clear A330
               by_cases c34 : t107 = true
               ·subst c34
                have H1 : ((doc_Part_isText.f ((rd_T120 l0 x8_1).f0.f0) ((rd_T120 l0 x8_1).f0.f1) ((rd_T120 l0 x8_1).f0.f2) ((rd_T120 l0 x8_1).f1) ((rd_T120 l0 x8_1).f2) ((rd_T120 l0 x8_1).f3) ((rd_T120 l0 x8_1).f4) ((rd_T120 l0 x8_1).f5) ((rd_T120 l0 x8_1).f6)).bind fun t108 => (doc_Doc_Right.l0 kj16 l0 t108 l0 (l0.length : Int) (wrap64 (x8_1 + 1)))) = some r := by rw [if_pos rfl] at H; exact H
                clear H
                have H := H1
                clear H1
                replace H := Option.bind_eq_some_iff.mp H
                obtain ⟨t108, A350, H⟩ := H
                replace H : (doc_Doc_Right.l0 kj16 l0 t108 l0 (l0.length : Int) (wrap64 (x8_1 + 1))) = some r := H
                have A35 := Aside0.mk A350
                clear A350
                have EA35 := Option.some.inj (A35.out.symm.trans A23.out)
                have H' := Aside0.mk H
                clear H
                have hcz36_0 : wc.cell? ⟨gb102, 0, none⟩ = some (.string ((rd_T120 l0 x8_1).f0.f0)) := (blk_cell BK102.out 0).trans rfl
                have hcz36_1 : wc.cell? ⟨gb102, 1, none⟩ = some (.string ((rd_T120 l0 x8_1).f0.f1)) := (blk_cell BK102.out 1).trans rfl
                have hcz36_2 : wc.cell? ⟨gb102, 2, none⟩ = some (.string ((rd_T120 l0 x8_1).f0.f2)) := (blk_cell BK102.out 2).trans rfl
                have hcz36_3 : wc.cell? ⟨gb102, 3, none⟩ = some (.bool ((rd_T120 l0 x8_1).f1)) := (blk_cell BK102.out 3).trans rfl
                have hcz36_4 : wc.cell? ⟨gb102, 4, none⟩ = some (.string ((rd_T120 l0 x8_1).f2)) := (blk_cell BK102.out 4).trans rfl
                have hcz36_5 : wc.cell? ⟨gb102, 5, none⟩ = some (.string ((rd_T120 l0 x8_1).f3)) := (blk_cell BK102.out 5).trans rfl
                have hcz36_6 : wc.cell? ⟨gb102, 6, none⟩ = some (.string ((rd_T120 l0 x8_1).f4)) := (blk_cell BK102.out 6).trans rfl
                have hcz36_7 : wc.cell? ⟨gb102, 7, none⟩ = some (.string ((rd_T120 l0 x8_1).f5)) := (blk_cell BK102.out 7).trans rfl
                have hcz36_8 : wc.cell? ⟨gb102, 8, none⟩ = some (.bool ((rd_T120 l0 x8_1).f6)) := (blk_cell BK102.out 8).trans rfl
                have hfz36_0 := blk_frozen BK102.out 0
                have hfz36_1 := blk_frozen BK102.out 1
                have hfz36_2 := blk_frozen BK102.out 2
                have hfz36_3 := blk_frozen BK102.out 3
                have hfz36_4 := blk_frozen BK102.out 4
                have hfz36_5 := blk_frozen BK102.out 5
                have hfz36_6 := blk_frozen BK102.out 6
                have hfz36_7 := blk_frozen BK102.out 7
                have hfz36_8 := blk_frozen BK102.out 8
                go_wp2_with (first | ((with_reducible refine gate_callee (f := 114) rfl ?_); refine goesL_ (some 28) rfl rfl Try.func114 (by kernel_rfl) rfl #[.agg #[.string ((rd_T120 l0 x8_1).f0.f0), .string ((rd_T120 l0 x8_1).f0.f1), .string ((rd_T120 l0 x8_1).f0.f2), .bool ((rd_T120 l0 x8_1).f1), .string ((rd_T120 l0 x8_1).f2), .string ((rd_T120 l0 x8_1).f3), .string ((rd_T120 l0 x8_1).f4), .string ((rd_T120 l0 x8_1).f5), .bool ((rd_T120 l0 x8_1).f6)]] rfl (by (try simp only [List.map_toArray, List.map_cons, List.map_nil]); first | done | rfl | (simp only [List.length_drop, List.length_take]; rfl)) ?_; (with_reducible refine (doc_Part_isText.calls ((rd_T120 l0 x8_1).f0.f0) ((rd_T120 l0 x8_1).f0.f1) ((rd_T120 l0 x8_1).f0.f2) ((rd_T120 l0 x8_1).f1) ((rd_T120 l0 x8_1).f2) ((rd_T120 l0 x8_1).f3) ((rd_T120 l0 x8_1).f4) ((rd_T120 l0 x8_1).f5) ((rd_T120 l0 x8_1).f6) true _ A23.out).mono ?_); rintro e w37 ⟨rfl, hb⟩; refine ⟨_, rfl, ?_⟩; have n0_ := Aside0.mk (blk_below (g := gb102) (o := .cells #[.string ((rd_T120 l0 x8_1).f0.f0), .string ((rd_T120 l0 x8_1).f0.f1), .string ((rd_T120 l0 x8_1).f0.f2), .bool ((rd_T120 l0 x8_1).f1), .string ((rd_T120 l0 x8_1).f2), .string ((rd_T120 l0 x8_1).f3), .string ((rd_T120 l0 x8_1).f4), .string ((rd_T120 l0 x8_1).f5), .bool ((rd_T120 l0 x8_1).f6)] 120 (0, 0)) (by (with_reducible repeat (first | refine blk_drewN ?_ _ | refine blk_drew ?_ | refine blk_alloc ?_ _)); exact BK102.out) hb); have n1_ := Aside0.mk (below_step (by repeat (first | (with_reducible first | exact HB.out | apply below_alloc | apply pw_below_drewN | apply below_drew1 | refine below_set ?_ GE102.out) | exact HB.out)) hb); clear BK102; clear HB; have BK102 := n0_; have HB := n1_; clear n0_ n1_; (try clear hb); (try clear hb2); (try clear hk); (try clear hi); have hcz38_0 : w37.cell? ⟨gb102, 0, none⟩ = some (.string ((rd_T120 l0 x8_1).f0.f0)) := (blk_cell BK102.out 0).trans rfl; have hcz38_1 : w37.cell? ⟨gb102, 1, none⟩ = some (.string ((rd_T120 l0 x8_1).f0.f1)) := (blk_cell BK102.out 1).trans rfl; have hcz38_2 : w37.cell? ⟨gb102, 2, none⟩ = some (.string ((rd_T120 l0 x8_1).f0.f2)) := (blk_cell BK102.out 2).trans rfl; have hcz38_3 : w37.cell? ⟨gb102, 3, none⟩ = some (.bool ((rd_T120 l0 x8_1).f1)) := (blk_cell BK102.out 3).trans rfl; have hcz38_4 : w37.cell? ⟨gb102, 4, none⟩ = some (.string ((rd_T120 l0 x8_1).f2)) := (blk_cell BK102.out 4).trans rfl; have hcz38_5 : w37.cell? ⟨gb102, 5, none⟩ = some (.string ((rd_T120 l0 x8_1).f3)) := (blk_cell BK102.out 5).trans rfl; have hcz38_6 : w37.cell? ⟨gb102, 6, none⟩ = some (.string ((rd_T120 l0 x8_1).f4)) := (blk_cell BK102.out 6).trans rfl; have hcz38_7 : w37.cell? ⟨gb102, 7, none⟩ = some (.string ((rd_T120 l0 x8_1).f5)) := (blk_cell BK102.out 7).trans rfl; have hcz38_8 : w37.cell? ⟨gb102, 8, none⟩ = some (.bool ((rd_T120 l0 x8_1).f6)) := (blk_cell BK102.out 8).trans rfl; have hfz38_0 := blk_frozen BK102.out 0; have hfz38_1 := blk_frozen BK102.out 1; have hfz38_2 := blk_frozen BK102.out 2; have hfz38_3 := blk_frozen BK102.out 3; have hfz38_4 := blk_frozen BK102.out 4; have hfz38_5 := blk_frozen BK102.out 5; have hfz38_6 := blk_frozen BK102.out 6; have hfz38_7 := blk_frozen BK102.out 7; have hfz38_8 := blk_frozen BK102.out 8) | (go_at_call 109; (with_reducible refine (strings_HasSuffix.calls ((rd_T120 l0 x8_1).f2) (⟨#[10]⟩ : ByteArray) true _ A33.out).mono ?_); rintro e w' ⟨rfl, ⟨nd, rfl⟩⟩) | ((with_reducible refine gate_callee (f := 114) rfl ?_); refine goesL_ (some 51) rfl rfl Try.func114 (by kernel_rfl) rfl #[.agg #[.string ((rd_T120 l0 x8_1).f0.f0), .string ((rd_T120 l0 x8_1).f0.f1), .string ((rd_T120 l0 x8_1).f0.f2), .bool ((rd_T120 l0 x8_1).f1), .string ((rd_T120 l0 x8_1).f2), .string ((rd_T120 l0 x8_1).f3), .string ((rd_T120 l0 x8_1).f4), .string ((rd_T120 l0 x8_1).f5), .bool ((rd_T120 l0 x8_1).f6)]] rfl (by (try simp only [List.map_toArray, List.map_cons, List.map_nil]); first | done | rfl | (simp only [List.length_drop, List.length_take]; rfl)) ?_; (with_reducible refine (doc_Part_isText.calls ((rd_T120 l0 x8_1).f0.f0) ((rd_T120 l0 x8_1).f0.f1) ((rd_T120 l0 x8_1).f0.f2) ((rd_T120 l0 x8_1).f1) ((rd_T120 l0 x8_1).f2) ((rd_T120 l0 x8_1).f3) ((rd_T120 l0 x8_1).f4) ((rd_T120 l0 x8_1).f5) ((rd_T120 l0 x8_1).f6) t108 _ A35.out).mono ?_); rintro e w39 ⟨rfl, hb⟩; refine ⟨_, rfl, ?_⟩; have n0_ := Aside0.mk (blk_below (g := gb102) (o := .cells #[.string ((rd_T120 l0 x8_1).f0.f0), .string ((rd_T120 l0 x8_1).f0.f1), .string ((rd_T120 l0 x8_1).f0.f2), .bool ((rd_T120 l0 x8_1).f1), .string ((rd_T120 l0 x8_1).f2), .string ((rd_T120 l0 x8_1).f3), .string ((rd_T120 l0 x8_1).f4), .string ((rd_T120 l0 x8_1).f5), .bool ((rd_T120 l0 x8_1).f6)] 120 (0, 0)) (by (with_reducible repeat (first | refine blk_drewN ?_ _ | refine blk_drew ?_ | refine blk_alloc ?_ _)); exact BK102.out) hb); have n1_ := Aside0.mk (below_step (by repeat (first | (with_reducible first | exact HB.out | apply below_alloc | apply pw_below_drewN | apply below_drew1 | refine below_set ?_ GE102.out) | exact HB.out)) hb); clear BK102; clear HB; have BK102 := n0_; have HB := n1_; clear n0_ n1_; (try clear hb); (try clear hb2); (try clear hk); (try clear hi)))
                go_roundg kj16
                case measure => have := HK1.out; have := HJ4.out; have := HJ16.out; omega
                case rel => exact ⟨(t108), (wrap64 (x8_1 + 1)), (by first | rfl | (simp; done) | (simp [*]; done)), (by first | rfl | (simp; done) | (simp [*]; done)), H', ⟨by have := HK1.out; have := HJ4.out; have := HJ16.out; omega⟩, ⟨by repeat (first | (with_reducible first | exact HB.out | apply below_alloc | apply pw_below_drewN | apply below_drew1 | refine below_set ?_ GE102.out) | exact HB.out)⟩⟩
               ·replace c34 := Bool.eq_false_iff.mpr c34
                subst c34
                have H1 : (some false) = some r := by rw [if_neg (show ¬ (false = true) by decide)] at H; exact H
                clear H
                have H := H1
                clear H1
                obtain rfl := Option.some.inj H
                have hcz40_0 : wc.cell? ⟨gb102, 0, none⟩ = some (.string ((rd_T120 l0 x8_1).f0.f0)) := (blk_cell BK102.out 0).trans rfl
                have hcz40_1 : wc.cell? ⟨gb102, 1, none⟩ = some (.string ((rd_T120 l0 x8_1).f0.f1)) := (blk_cell BK102.out 1).trans rfl
                have hcz40_2 : wc.cell? ⟨gb102, 2, none⟩ = some (.string ((rd_T120 l0 x8_1).f0.f2)) := (blk_cell BK102.out 2).trans rfl
                have hcz40_3 : wc.cell? ⟨gb102, 3, none⟩ = some (.bool ((rd_T120 l0 x8_1).f1)) := (blk_cell BK102.out 3).trans rfl
                have hcz40_4 : wc.cell? ⟨gb102, 4, none⟩ = some (.string ((rd_T120 l0 x8_1).f2)) := (blk_cell BK102.out 4).trans rfl
                have hcz40_5 : wc.cell? ⟨gb102, 5, none⟩ = some (.string ((rd_T120 l0 x8_1).f3)) := (blk_cell BK102.out 5).trans rfl
                have hcz40_6 : wc.cell? ⟨gb102, 6, none⟩ = some (.string ((rd_T120 l0 x8_1).f4)) := (blk_cell BK102.out 6).trans rfl
                have hcz40_7 : wc.cell? ⟨gb102, 7, none⟩ = some (.string ((rd_T120 l0 x8_1).f5)) := (blk_cell BK102.out 7).trans rfl
                have hcz40_8 : wc.cell? ⟨gb102, 8, none⟩ = some (.bool ((rd_T120 l0 x8_1).f6)) := (blk_cell BK102.out 8).trans rfl
                have hfz40_0 := blk_frozen BK102.out 0
                have hfz40_1 := blk_frozen BK102.out 1
                have hfz40_2 := blk_frozen BK102.out 2
                have hfz40_3 := blk_frozen BK102.out 3
                have hfz40_4 := blk_frozen BK102.out 4
                have hfz40_5 := blk_frozen BK102.out 5
                have hfz40_6 := blk_frozen BK102.out 6
                have hfz40_7 := blk_frozen BK102.out 7
                have hfz40_8 := blk_frozen BK102.out 8
                go_wp2_with (first | ((with_reducible refine gate_callee (f := 114) rfl ?_); refine goesL_ (some 28) rfl rfl Try.func114 (by kernel_rfl) rfl #[.agg #[.string ((rd_T120 l0 x8_1).f0.f0), .string ((rd_T120 l0 x8_1).f0.f1), .string ((rd_T120 l0 x8_1).f0.f2), .bool ((rd_T120 l0 x8_1).f1), .string ((rd_T120 l0 x8_1).f2), .string ((rd_T120 l0 x8_1).f3), .string ((rd_T120 l0 x8_1).f4), .string ((rd_T120 l0 x8_1).f5), .bool ((rd_T120 l0 x8_1).f6)]] rfl (by (try simp only [List.map_toArray, List.map_cons, List.map_nil]); first | done | rfl | (simp only [List.length_drop, List.length_take]; rfl)) ?_; (with_reducible refine (doc_Part_isText.calls ((rd_T120 l0 x8_1).f0.f0) ((rd_T120 l0 x8_1).f0.f1) ((rd_T120 l0 x8_1).f0.f2) ((rd_T120 l0 x8_1).f1) ((rd_T120 l0 x8_1).f2) ((rd_T120 l0 x8_1).f3) ((rd_T120 l0 x8_1).f4) ((rd_T120 l0 x8_1).f5) ((rd_T120 l0 x8_1).f6) true _ A23.out).mono ?_); rintro e w41 ⟨rfl, hb⟩; refine ⟨_, rfl, ?_⟩; have n0_ := Aside0.mk (blk_below (g := gb102) (o := .cells #[.string ((rd_T120 l0 x8_1).f0.f0), .string ((rd_T120 l0 x8_1).f0.f1), .string ((rd_T120 l0 x8_1).f0.f2), .bool ((rd_T120 l0 x8_1).f1), .string ((rd_T120 l0 x8_1).f2), .string ((rd_T120 l0 x8_1).f3), .string ((rd_T120 l0 x8_1).f4), .string ((rd_T120 l0 x8_1).f5), .bool ((rd_T120 l0 x8_1).f6)] 120 (0, 0)) (by (with_reducible repeat (first | refine blk_drewN ?_ _ | refine blk_drew ?_ | refine blk_alloc ?_ _)); exact BK102.out) hb); have n1_ := Aside0.mk (below_step (by repeat (first | (with_reducible first | exact HB.out | apply below_alloc | apply pw_below_drewN | apply below_drew1 | refine below_set ?_ GE102.out) | exact HB.out)) hb); clear BK102; clear HB; have BK102 := n0_; have HB := n1_; clear n0_ n1_; (try clear hb); (try clear hb2); (try clear hk); (try clear hi); have hcz42_0 : w41.cell? ⟨gb102, 0, none⟩ = some (.string ((rd_T120 l0 x8_1).f0.f0)) := (blk_cell BK102.out 0).trans rfl; have hcz42_1 : w41.cell? ⟨gb102, 1, none⟩ = some (.string ((rd_T120 l0 x8_1).f0.f1)) := (blk_cell BK102.out 1).trans rfl; have hcz42_2 : w41.cell? ⟨gb102, 2, none⟩ = some (.string ((rd_T120 l0 x8_1).f0.f2)) := (blk_cell BK102.out 2).trans rfl; have hcz42_3 : w41.cell? ⟨gb102, 3, none⟩ = some (.bool ((rd_T120 l0 x8_1).f1)) := (blk_cell BK102.out 3).trans rfl; have hcz42_4 : w41.cell? ⟨gb102, 4, none⟩ = some (.string ((rd_T120 l0 x8_1).f2)) := (blk_cell BK102.out 4).trans rfl; have hcz42_5 : w41.cell? ⟨gb102, 5, none⟩ = some (.string ((rd_T120 l0 x8_1).f3)) := (blk_cell BK102.out 5).trans rfl; have hcz42_6 : w41.cell? ⟨gb102, 6, none⟩ = some (.string ((rd_T120 l0 x8_1).f4)) := (blk_cell BK102.out 6).trans rfl; have hcz42_7 : w41.cell? ⟨gb102, 7, none⟩ = some (.string ((rd_T120 l0 x8_1).f5)) := (blk_cell BK102.out 7).trans rfl; have hcz42_8 : w41.cell? ⟨gb102, 8, none⟩ = some (.bool ((rd_T120 l0 x8_1).f6)) := (blk_cell BK102.out 8).trans rfl; have hfz42_0 := blk_frozen BK102.out 0; have hfz42_1 := blk_frozen BK102.out 1; have hfz42_2 := blk_frozen BK102.out 2; have hfz42_3 := blk_frozen BK102.out 3; have hfz42_4 := blk_frozen BK102.out 4; have hfz42_5 := blk_frozen BK102.out 5; have hfz42_6 := blk_frozen BK102.out 6; have hfz42_7 := blk_frozen BK102.out 7; have hfz42_8 := blk_frozen BK102.out 8) | (go_at_call 109; (with_reducible refine (strings_HasSuffix.calls ((rd_T120 l0 x8_1).f2) (⟨#[10]⟩ : ByteArray) false _ A33.out).mono ?_); rintro e w' ⟨rfl, ⟨nd, rfl⟩⟩))
                go_ret
                exact ⟨by first | rfl | (simp [errW_none, errW_some] <;> rfl) | (simp [*, errW_none, errW_some] <;> rfl), by repeat (first | (with_reducible first | exact HB.out | apply below_alloc | apply pw_below_drewN | apply below_drew1 | refine below_set ?_ GE102.out) | exact HB.out)⟩
              ·rw [if_neg c32] at H
               have c32b0 : decide (x8_1 < (wrap64 ((l0.length : Int) - 1))) = false := decide_eq_false c32
               clear c32
               replace H := Option.bind_eq_some_iff.mp H
               obtain ⟨t109, A430, H⟩ := H
               replace H : (doc_Doc_Right.l0 kj16 l0 t109 l0 (l0.length : Int) (wrap64 (x8_1 + 1))) = some r := H
               have A43 := Aside0.mk A430
               clear A430
               have EA43 := Option.some.inj (A43.out.symm.trans A23.out)
               have H' := Aside0.mk H
               clear H
               have hcz44_0 : wc.cell? ⟨gb102, 0, none⟩ = some (.string ((rd_T120 l0 x8_1).f0.f0)) := (blk_cell BK102.out 0).trans rfl
               have hcz44_1 : wc.cell? ⟨gb102, 1, none⟩ = some (.string ((rd_T120 l0 x8_1).f0.f1)) := (blk_cell BK102.out 1).trans rfl
               have hcz44_2 : wc.cell? ⟨gb102, 2, none⟩ = some (.string ((rd_T120 l0 x8_1).f0.f2)) := (blk_cell BK102.out 2).trans rfl
               have hcz44_3 : wc.cell? ⟨gb102, 3, none⟩ = some (.bool ((rd_T120 l0 x8_1).f1)) := (blk_cell BK102.out 3).trans rfl
               have hcz44_4 : wc.cell? ⟨gb102, 4, none⟩ = some (.string ((rd_T120 l0 x8_1).f2)) := (blk_cell BK102.out 4).trans rfl
               have hcz44_5 : wc.cell? ⟨gb102, 5, none⟩ = some (.string ((rd_T120 l0 x8_1).f3)) := (blk_cell BK102.out 5).trans rfl
               have hcz44_6 : wc.cell? ⟨gb102, 6, none⟩ = some (.string ((rd_T120 l0 x8_1).f4)) := (blk_cell BK102.out 6).trans rfl
               have hcz44_7 : wc.cell? ⟨gb102, 7, none⟩ = some (.string ((rd_T120 l0 x8_1).f5)) := (blk_cell BK102.out 7).trans rfl
               have hcz44_8 : wc.cell? ⟨gb102, 8, none⟩ = some (.bool ((rd_T120 l0 x8_1).f6)) := (blk_cell BK102.out 8).trans rfl
               have hfz44_0 := blk_frozen BK102.out 0
               have hfz44_1 := blk_frozen BK102.out 1
               have hfz44_2 := blk_frozen BK102.out 2
               have hfz44_3 := blk_frozen BK102.out 3
               have hfz44_4 := blk_frozen BK102.out 4
               have hfz44_5 := blk_frozen BK102.out 5
               have hfz44_6 := blk_frozen BK102.out 6
               have hfz44_7 := blk_frozen BK102.out 7
               have hfz44_8 := blk_frozen BK102.out 8
               go_wp2_with (first | ((with_reducible refine gate_callee (f := 114) rfl ?_); refine goesL_ (some 28) rfl rfl Try.func114 (by kernel_rfl) rfl #[.agg #[.string ((rd_T120 l0 x8_1).f0.f0), .string ((rd_T120 l0 x8_1).f0.f1), .string ((rd_T120 l0 x8_1).f0.f2), .bool ((rd_T120 l0 x8_1).f1), .string ((rd_T120 l0 x8_1).f2), .string ((rd_T120 l0 x8_1).f3), .string ((rd_T120 l0 x8_1).f4), .string ((rd_T120 l0 x8_1).f5), .bool ((rd_T120 l0 x8_1).f6)]] rfl (by (try simp only [List.map_toArray, List.map_cons, List.map_nil]); first | done | rfl | (simp only [List.length_drop, List.length_take]; rfl)) ?_; (with_reducible refine (doc_Part_isText.calls ((rd_T120 l0 x8_1).f0.f0) ((rd_T120 l0 x8_1).f0.f1) ((rd_T120 l0 x8_1).f0.f2) ((rd_T120 l0 x8_1).f1) ((rd_T120 l0 x8_1).f2) ((rd_T120 l0 x8_1).f3) ((rd_T120 l0 x8_1).f4) ((rd_T120 l0 x8_1).f5) ((rd_T120 l0 x8_1).f6) true _ A23.out).mono ?_); rintro e w45 ⟨rfl, hb⟩; refine ⟨_, rfl, ?_⟩; have n0_ := Aside0.mk (blk_below (g := gb102) (o := .cells #[.string ((rd_T120 l0 x8_1).f0.f0), .string ((rd_T120 l0 x8_1).f0.f1), .string ((rd_T120 l0 x8_1).f0.f2), .bool ((rd_T120 l0 x8_1).f1), .string ((rd_T120 l0 x8_1).f2), .string ((rd_T120 l0 x8_1).f3), .string ((rd_T120 l0 x8_1).f4), .string ((rd_T120 l0 x8_1).f5), .bool ((rd_T120 l0 x8_1).f6)] 120 (0, 0)) (by (with_reducible repeat (first | refine blk_drewN ?_ _ | refine blk_drew ?_ | refine blk_alloc ?_ _)); exact BK102.out) hb); have n1_ := Aside0.mk (below_step (by repeat (first | (with_reducible first | exact HB.out | apply below_alloc | apply pw_below_drewN | apply below_drew1 | refine below_set ?_ GE102.out) | exact HB.out)) hb); clear BK102; clear HB; have BK102 := n0_; have HB := n1_; clear n0_ n1_; (try clear hb); (try clear hb2); (try clear hk); (try clear hi); have hcz46_0 : w45.cell? ⟨gb102, 0, none⟩ = some (.string ((rd_T120 l0 x8_1).f0.f0)) := (blk_cell BK102.out 0).trans rfl; have hcz46_1 : w45.cell? ⟨gb102, 1, none⟩ = some (.string ((rd_T120 l0 x8_1).f0.f1)) := (blk_cell BK102.out 1).trans rfl; have hcz46_2 : w45.cell? ⟨gb102, 2, none⟩ = some (.string ((rd_T120 l0 x8_1).f0.f2)) := (blk_cell BK102.out 2).trans rfl; have hcz46_3 : w45.cell? ⟨gb102, 3, none⟩ = some (.bool ((rd_T120 l0 x8_1).f1)) := (blk_cell BK102.out 3).trans rfl; have hcz46_4 : w45.cell? ⟨gb102, 4, none⟩ = some (.string ((rd_T120 l0 x8_1).f2)) := (blk_cell BK102.out 4).trans rfl; have hcz46_5 : w45.cell? ⟨gb102, 5, none⟩ = some (.string ((rd_T120 l0 x8_1).f3)) := (blk_cell BK102.out 5).trans rfl; have hcz46_6 : w45.cell? ⟨gb102, 6, none⟩ = some (.string ((rd_T120 l0 x8_1).f4)) := (blk_cell BK102.out 6).trans rfl; have hcz46_7 : w45.cell? ⟨gb102, 7, none⟩ = some (.string ((rd_T120 l0 x8_1).f5)) := (blk_cell BK102.out 7).trans rfl; have hcz46_8 : w45.cell? ⟨gb102, 8, none⟩ = some (.bool ((rd_T120 l0 x8_1).f6)) := (blk_cell BK102.out 8).trans rfl; have hfz46_0 := blk_frozen BK102.out 0; have hfz46_1 := blk_frozen BK102.out 1; have hfz46_2 := blk_frozen BK102.out 2; have hfz46_3 := blk_frozen BK102.out 3; have hfz46_4 := blk_frozen BK102.out 4; have hfz46_5 := blk_frozen BK102.out 5; have hfz46_6 := blk_frozen BK102.out 6; have hfz46_7 := blk_frozen BK102.out 7; have hfz46_8 := blk_frozen BK102.out 8) | ((with_reducible refine gate_callee (f := 114) rfl ?_); refine goesL_ (some 51) rfl rfl Try.func114 (by kernel_rfl) rfl #[.agg #[.string ((rd_T120 l0 x8_1).f0.f0), .string ((rd_T120 l0 x8_1).f0.f1), .string ((rd_T120 l0 x8_1).f0.f2), .bool ((rd_T120 l0 x8_1).f1), .string ((rd_T120 l0 x8_1).f2), .string ((rd_T120 l0 x8_1).f3), .string ((rd_T120 l0 x8_1).f4), .string ((rd_T120 l0 x8_1).f5), .bool ((rd_T120 l0 x8_1).f6)]] rfl (by (try simp only [List.map_toArray, List.map_cons, List.map_nil]); first | done | rfl | (simp only [List.length_drop, List.length_take]; rfl)) ?_; (with_reducible refine (doc_Part_isText.calls ((rd_T120 l0 x8_1).f0.f0) ((rd_T120 l0 x8_1).f0.f1) ((rd_T120 l0 x8_1).f0.f2) ((rd_T120 l0 x8_1).f1) ((rd_T120 l0 x8_1).f2) ((rd_T120 l0 x8_1).f3) ((rd_T120 l0 x8_1).f4) ((rd_T120 l0 x8_1).f5) ((rd_T120 l0 x8_1).f6) t109 _ A43.out).mono ?_); rintro e w47 ⟨rfl, hb⟩; refine ⟨_, rfl, ?_⟩; have n0_ := Aside0.mk (blk_below (g := gb102) (o := .cells #[.string ((rd_T120 l0 x8_1).f0.f0), .string ((rd_T120 l0 x8_1).f0.f1), .string ((rd_T120 l0 x8_1).f0.f2), .bool ((rd_T120 l0 x8_1).f1), .string ((rd_T120 l0 x8_1).f2), .string ((rd_T120 l0 x8_1).f3), .string ((rd_T120 l0 x8_1).f4), .string ((rd_T120 l0 x8_1).f5), .bool ((rd_T120 l0 x8_1).f6)] 120 (0, 0)) (by (with_reducible repeat (first | refine blk_drewN ?_ _ | refine blk_drew ?_ | refine blk_alloc ?_ _)); exact BK102.out) hb); have n1_ := Aside0.mk (below_step (by repeat (first | (with_reducible first | exact HB.out | apply below_alloc | apply pw_below_drewN | apply below_drew1 | refine below_set ?_ GE102.out) | exact HB.out)) hb); clear BK102; clear HB; have BK102 := n0_; have HB := n1_; clear n0_ n1_; (try clear hb); (try clear hb2); (try clear hk); (try clear hi)))
               go_roundg kj16
               case measure => have := HK1.out; have := HJ4.out; have := HJ16.out; omega
               case rel => exact ⟨(t109), (wrap64 (x8_1 + 1)), (by first | rfl | (simp; done) | (simp [*]; done)), (by first | rfl | (simp; done) | (simp [*]; done)), H', ⟨by have := HK1.out; have := HJ4.out; have := HJ16.out; omega⟩, ⟨by repeat (first | (with_reducible first | exact HB.out | apply below_alloc | apply pw_below_drewN | apply below_drew1 | refine below_set ?_ GE102.out) | exact HB.out)⟩⟩
           ·replace c24 := Bool.eq_false_iff.mpr c24
            subst c24
            have H1 : ((doc_Part_isText.f ((rd_T120 l0 x8_1).f0.f0) ((rd_T120 l0 x8_1).f0.f1) ((rd_T120 l0 x8_1).f0.f2) ((rd_T120 l0 x8_1).f1) ((rd_T120 l0 x8_1).f2) ((rd_T120 l0 x8_1).f3) ((rd_T120 l0 x8_1).f4) ((rd_T120 l0 x8_1).f5) ((rd_T120 l0 x8_1).f6)).bind fun t110 => (doc_Doc_Right.l0 kj16 l0 t110 l0 (l0.length : Int) (wrap64 (x8_1 + 1)))) = some r := by rw [if_neg (show ¬ (false = true) by decide)] at H; exact H
            clear H
            have H := H1
            clear H1
            replace H := Option.bind_eq_some_iff.mp H
            obtain ⟨t110, A480, H⟩ := H
            replace H : (doc_Doc_Right.l0 kj16 l0 t110 l0 (l0.length : Int) (wrap64 (x8_1 + 1))) = some r := H
            have A48 := Aside0.mk A480
            clear A480
            have EA48 := Option.some.inj (A48.out.symm.trans A23.out)
            have H' := Aside0.mk H
            clear H
            have hcz49_0 : wc.cell? ⟨gb102, 0, none⟩ = some (.string ((rd_T120 l0 x8_1).f0.f0)) := (blk_cell BK102.out 0).trans rfl
            have hcz49_1 : wc.cell? ⟨gb102, 1, none⟩ = some (.string ((rd_T120 l0 x8_1).f0.f1)) := (blk_cell BK102.out 1).trans rfl
            have hcz49_2 : wc.cell? ⟨gb102, 2, none⟩ = some (.string ((rd_T120 l0 x8_1).f0.f2)) := (blk_cell BK102.out 2).trans rfl
            have hcz49_3 : wc.cell? ⟨gb102, 3, none⟩ = some (.bool ((rd_T120 l0 x8_1).f1)) := (blk_cell BK102.out 3).trans rfl
            have hcz49_4 : wc.cell? ⟨gb102, 4, none⟩ = some (.string ((rd_T120 l0 x8_1).f2)) := (blk_cell BK102.out 4).trans rfl
            have hcz49_5 : wc.cell? ⟨gb102, 5, none⟩ = some (.string ((rd_T120 l0 x8_1).f3)) := (blk_cell BK102.out 5).trans rfl
            have hcz49_6 : wc.cell? ⟨gb102, 6, none⟩ = some (.string ((rd_T120 l0 x8_1).f4)) := (blk_cell BK102.out 6).trans rfl
            have hcz49_7 : wc.cell? ⟨gb102, 7, none⟩ = some (.string ((rd_T120 l0 x8_1).f5)) := (blk_cell BK102.out 7).trans rfl
            have hcz49_8 : wc.cell? ⟨gb102, 8, none⟩ = some (.bool ((rd_T120 l0 x8_1).f6)) := (blk_cell BK102.out 8).trans rfl
            have hfz49_0 := blk_frozen BK102.out 0
            have hfz49_1 := blk_frozen BK102.out 1
            have hfz49_2 := blk_frozen BK102.out 2
            have hfz49_3 := blk_frozen BK102.out 3
            have hfz49_4 := blk_frozen BK102.out 4
            have hfz49_5 := blk_frozen BK102.out 5
            have hfz49_6 := blk_frozen BK102.out 6
            have hfz49_7 := blk_frozen BK102.out 7
            have hfz49_8 := blk_frozen BK102.out 8
            go_wp2_with (first | ((with_reducible refine gate_callee (f := 114) rfl ?_); refine goesL_ (some 28) rfl rfl Try.func114 (by kernel_rfl) rfl #[.agg #[.string ((rd_T120 l0 x8_1).f0.f0), .string ((rd_T120 l0 x8_1).f0.f1), .string ((rd_T120 l0 x8_1).f0.f2), .bool ((rd_T120 l0 x8_1).f1), .string ((rd_T120 l0 x8_1).f2), .string ((rd_T120 l0 x8_1).f3), .string ((rd_T120 l0 x8_1).f4), .string ((rd_T120 l0 x8_1).f5), .bool ((rd_T120 l0 x8_1).f6)]] rfl (by (try simp only [List.map_toArray, List.map_cons, List.map_nil]); first | done | rfl | (simp only [List.length_drop, List.length_take]; rfl)) ?_; (with_reducible refine (doc_Part_isText.calls ((rd_T120 l0 x8_1).f0.f0) ((rd_T120 l0 x8_1).f0.f1) ((rd_T120 l0 x8_1).f0.f2) ((rd_T120 l0 x8_1).f1) ((rd_T120 l0 x8_1).f2) ((rd_T120 l0 x8_1).f3) ((rd_T120 l0 x8_1).f4) ((rd_T120 l0 x8_1).f5) ((rd_T120 l0 x8_1).f6) false _ A23.out).mono ?_); rintro e w50 ⟨rfl, hb⟩; refine ⟨_, rfl, ?_⟩; have n0_ := Aside0.mk (blk_below (g := gb102) (o := .cells #[.string ((rd_T120 l0 x8_1).f0.f0), .string ((rd_T120 l0 x8_1).f0.f1), .string ((rd_T120 l0 x8_1).f0.f2), .bool ((rd_T120 l0 x8_1).f1), .string ((rd_T120 l0 x8_1).f2), .string ((rd_T120 l0 x8_1).f3), .string ((rd_T120 l0 x8_1).f4), .string ((rd_T120 l0 x8_1).f5), .bool ((rd_T120 l0 x8_1).f6)] 120 (0, 0)) (by (with_reducible repeat (first | refine blk_drewN ?_ _ | refine blk_drew ?_ | refine blk_alloc ?_ _)); exact BK102.out) hb); have n1_ := Aside0.mk (below_step (by repeat (first | (with_reducible first | exact HB.out | apply below_alloc | apply pw_below_drewN | apply below_drew1 | refine below_set ?_ GE102.out) | exact HB.out)) hb); clear BK102; clear HB; have BK102 := n0_; have HB := n1_; clear n0_ n1_; (try clear hb); (try clear hb2); (try clear hk); (try clear hi); have hcz51_0 : w50.cell? ⟨gb102, 0, none⟩ = some (.string ((rd_T120 l0 x8_1).f0.f0)) := (blk_cell BK102.out 0).trans rfl; have hcz51_1 : w50.cell? ⟨gb102, 1, none⟩ = some (.string ((rd_T120 l0 x8_1).f0.f1)) := (blk_cell BK102.out 1).trans rfl; have hcz51_2 : w50.cell? ⟨gb102, 2, none⟩ = some (.string ((rd_T120 l0 x8_1).f0.f2)) := (blk_cell BK102.out 2).trans rfl; have hcz51_3 : w50.cell? ⟨gb102, 3, none⟩ = some (.bool ((rd_T120 l0 x8_1).f1)) := (blk_cell BK102.out 3).trans rfl; have hcz51_4 : w50.cell? ⟨gb102, 4, none⟩ = some (.string ((rd_T120 l0 x8_1).f2)) := (blk_cell BK102.out 4).trans rfl; have hcz51_5 : w50.cell? ⟨gb102, 5, none⟩ = some (.string ((rd_T120 l0 x8_1).f3)) := (blk_cell BK102.out 5).trans rfl; have hcz51_6 : w50.cell? ⟨gb102, 6, none⟩ = some (.string ((rd_T120 l0 x8_1).f4)) := (blk_cell BK102.out 6).trans rfl; have hcz51_7 : w50.cell? ⟨gb102, 7, none⟩ = some (.string ((rd_T120 l0 x8_1).f5)) := (blk_cell BK102.out 7).trans rfl; have hcz51_8 : w50.cell? ⟨gb102, 8, none⟩ = some (.bool ((rd_T120 l0 x8_1).f6)) := (blk_cell BK102.out 8).trans rfl; have hfz51_0 := blk_frozen BK102.out 0; have hfz51_1 := blk_frozen BK102.out 1; have hfz51_2 := blk_frozen BK102.out 2; have hfz51_3 := blk_frozen BK102.out 3; have hfz51_4 := blk_frozen BK102.out 4; have hfz51_5 := blk_frozen BK102.out 5; have hfz51_6 := blk_frozen BK102.out 6; have hfz51_7 := blk_frozen BK102.out 7; have hfz51_8 := blk_frozen BK102.out 8) | ((with_reducible refine gate_callee (f := 114) rfl ?_); refine goesL_ (some 51) rfl rfl Try.func114 (by kernel_rfl) rfl #[.agg #[.string ((rd_T120 l0 x8_1).f0.f0), .string ((rd_T120 l0 x8_1).f0.f1), .string ((rd_T120 l0 x8_1).f0.f2), .bool ((rd_T120 l0 x8_1).f1), .string ((rd_T120 l0 x8_1).f2), .string ((rd_T120 l0 x8_1).f3), .string ((rd_T120 l0 x8_1).f4), .string ((rd_T120 l0 x8_1).f5), .bool ((rd_T120 l0 x8_1).f6)]] rfl (by (try simp only [List.map_toArray, List.map_cons, List.map_nil]); first | done | rfl | (simp only [List.length_drop, List.length_take]; rfl)) ?_; (with_reducible refine (doc_Part_isText.calls ((rd_T120 l0 x8_1).f0.f0) ((rd_T120 l0 x8_1).f0.f1) ((rd_T120 l0 x8_1).f0.f2) ((rd_T120 l0 x8_1).f1) ((rd_T120 l0 x8_1).f2) ((rd_T120 l0 x8_1).f3) ((rd_T120 l0 x8_1).f4) ((rd_T120 l0 x8_1).f5) ((rd_T120 l0 x8_1).f6) t110 _ A48.out).mono ?_); rintro e w52 ⟨rfl, hb⟩; refine ⟨_, rfl, ?_⟩; have n0_ := Aside0.mk (blk_below (g := gb102) (o := .cells #[.string ((rd_T120 l0 x8_1).f0.f0), .string ((rd_T120 l0 x8_1).f0.f1), .string ((rd_T120 l0 x8_1).f0.f2), .bool ((rd_T120 l0 x8_1).f1), .string ((rd_T120 l0 x8_1).f2), .string ((rd_T120 l0 x8_1).f3), .string ((rd_T120 l0 x8_1).f4), .string ((rd_T120 l0 x8_1).f5), .bool ((rd_T120 l0 x8_1).f6)] 120 (0, 0)) (by (with_reducible repeat (first | refine blk_drewN ?_ _ | refine blk_drew ?_ | refine blk_alloc ?_ _)); exact BK102.out) hb); have n1_ := Aside0.mk (below_step (by repeat (first | (with_reducible first | exact HB.out | apply below_alloc | apply pw_below_drewN | apply below_drew1 | refine below_set ?_ GE102.out) | exact HB.out)) hb); clear BK102; clear HB; have BK102 := n0_; have HB := n1_; clear n0_ n1_; (try clear hb); (try clear hb2); (try clear hk); (try clear hi)))
            go_roundg kj16
            case measure => have := HK1.out; have := HJ4.out; have := HJ16.out; omega
            case rel => exact ⟨(t110), (wrap64 (x8_1 + 1)), (by first | rfl | (simp; done) | (simp [*]; done)), (by first | rfl | (simp; done) | (simp [*]; done)), H', ⟨by have := HK1.out; have := HJ4.out; have := HJ16.out; omega⟩, ⟨by repeat (first | (with_reducible first | exact HB.out | apply below_alloc | apply pw_below_drewN | apply below_drew1 | refine below_set ?_ GE102.out) | exact HB.out)⟩⟩
     ·rw [if_neg c4] at H
      exact absurd H (by simp)
    ·rw [if_neg c3] at H
     exact absurd H (by simp)
   ·rw [if_neg c2] at H
    have c2b0 : decide (x8_1 < (l0.length : Int)) = false := decide_eq_false c2
    clear c2
    obtain rfl := Option.some.inj H
    go_wp2
    go_ret
    exact ⟨by first | rfl | (simp [errW_none, errW_some] <;> rfl) | (simp [*, errW_none, errW_some] <;> rfl), by repeat (first | (with_reducible first | exact HB.out | apply below_alloc | apply pw_below_drewN | apply below_drew1) | exact HB.out)⟩
end Go.Proofs.Ytadafplbgophfaa.PA
end
section
namespace Go.Proofs.Ytadafplbgophfaa.Pure
namespace Res
open Go.RowKit Go.Proofs.Ytadafplbgophfaa.PA Go.Proofs.YtadafplbgophfaaW.PrintWords Go.Proofs.YtadafplbgophfaaW.PrintLast Go.Proofs.YtadafplbgophfaaW.PrintMore
theorem w64 {x : Int} (h0 : -9223372036854775808 ≤ x) (h1 : x ≤ 9223372036854775807) : wrap64 x = x := by unfold wrap64; omega
def of123 (p : S123) : S120 := ⟨⟨p.f0, p.f1, p.f2⟩, p.f3, p.f4, p.f5, p.f6, p.f7, p.f8⟩
theorem rd123 {d : List S123} {i : Nat} (h : i < d.length) : rd_T123 d (i : Int) = d[i] := by simp [rd_T123, List.getD_eq_getElem?_getD, h]
theorem rd120 {d : List S120} {i : Nat} (h : i < d.length) : rd_T120 d (i : Int) = d[i] := by simp [rd_T120, List.getD_eq_getElem?_getD, h]
theorem rdmap {d : List S123} {i : Nat} (h : i < d.length) : rd_T120 (d.map of123) (i : Int) = of123 d[i] := by rw [rd120 (by simpa using h), List.getElem_map]
def szs (p : S123) : Nat := p.f4.size + p.f5.size + p.f6.size + p.f7.size + p.f0.size + p.f1.size + p.f2.size
def plB (s : ByteArray) : Bool := !(s.data.toList.contains 10)
theorem bt_get (s : ByteArray) (i : Nat) (h : i < s.size) : bt s (i : Int) = ((s.data.toList[i]'(by simpa using h)).toNat : Int) := by
  have e := bt_at s (i : Int) (by simpa using h)
  rw [← e]
  rfl
theorem ten (b : UInt8) : ((b.toNat : Int) = 10) ↔ b = 10 := by
  constructor
  · intro h
    have h2 : b.toNat = 10 := by omega
    exact UInt8.toNat_inj.1 (by rw [h2]; rfl)
  · rintro rfl; rfl
theorem plain_go (s : ByteArray) (hs : s.size ≤ 1000000000000) : ∀ (n i : Nat), s.size - i ≤ n → i ≤ s.size → Ev (fun k => tripartiteref07_plain.l0 k s i) (!((s.data.toList.drop i).contains 10)) := by
  intro n
  induction n with
  | zero =>
    intro i h1 h2
    refine Ev.step (f := fun _ => some true) (fun k => ?_) ?_
    · simp only [tripartiteref07_plain.l0]; rw [if_neg (by omega)]
    · rw [List.drop_of_length_le (by simp; omega)]; exact Ev.now _
  | succ n ih =>
    intro i h1 h2
    by_cases hi : i < s.size
    · have hl : i < s.data.toList.length := by simpa using hi
      rw [List.drop_eq_getElem_cons hl]
      by_cases h10 : s.data.toList[i] = 10
      · refine Ev.step (f := fun _ => some false) (fun k => ?_) ?_
        · simp only [tripartiteref07_plain.l0]; rw [if_pos (by omega), if_pos (by omega), if_pos (by rw [bt_get s i hi, ten]; exact h10)]
        · rw [h10]; simp only [List.contains_cons, beq_self_eq_true, Bool.true_or, Bool.not_true]; exact Ev.now _
      · refine Ev.step (f := fun k => tripartiteref07_plain.l0 k s ((i + 1 : Nat) : Int)) (fun k => ?_) ?_
        · simp only [tripartiteref07_plain.l0]; rw [if_pos (by omega), if_pos (by omega), if_neg (by rw [bt_get s i hi, ten]; exact h10), w64 (by omega) (by omega)]; rfl
        · have := ih (i + 1) (by omega) (by omega)
          have e : (10 == s.data.toList[i]) = false := beq_eq_false_iff_ne.mpr (fun e => h10 e.symm)
          rw [List.contains_cons, e, Bool.false_or]
          exact this
    · refine Ev.step (f := fun _ => some true) (fun k => ?_) ?_
      · simp only [tripartiteref07_plain.l0]; rw [if_neg (by omega)]
      · rw [List.drop_of_length_le (by simp; omega)]; exact Ev.now _
theorem plain_ok (s : ByteArray) (hs : s.size ≤ 1000000000000) : Ev (fun k => tripartiteref07_plain.f k s) (plB s) := by
  have := plain_go s hs s.size 0 (by omega) (by omega)
  rw [List.drop_zero] at this
  exact this
def plP (p : S123) : Bool := plB p.f0 && (plB p.f1 && plB p.f2)
theorem Plain_ok (p : S123) (h0 : p.f0.size ≤ 1000000000000) (h1 : p.f1.size ≤ 1000000000000) (h2 : p.f2.size ≤ 1000000000000) : Ev (fun k => tripartiteref07_Plain.f k p.f0 p.f1 p.f2 p.f3 p.f4 p.f5 p.f6 p.f7 p.f8) (plP p) := by
  unfold tripartiteref07_Plain.f plP
  refine Ev.bind (plain_ok _ h0) ?_
  cases plB p.f0
  · exact Ev.congr (fun k => by rw [if_neg (by decide)]; rfl) (Ev.now _)
  · refine Ev.congr (fun k => by rw [if_pos rfl]) ?_
    refine Ev.bind (plain_ok _ h1) ?_
    cases plB p.f1
    · exact Ev.congr (fun k => by rw [if_neg (by decide)]; rfl) (Ev.now _)
    · refine Ev.congr (fun k => by rw [if_pos rfl]) ?_
      exact Ev.bind (plain_ok _ h2) (Ev.now _)
theorem Labels_ok (p : S123) (h0 : p.f0.size ≤ 1000000000000) (h1 : p.f1.size ≤ 1000000000000) (h2 : p.f2.size ≤ 1000000000000) : Ev (fun k => doc_Labels_Plain.f k p.f0 p.f1 p.f2) (plP p) := by
  unfold doc_Labels_Plain.f
  have ha : (p.f0 ++ p.f1).size = p.f0.size + p.f1.size := ByteArray.size_append
  refine Ev.congr (fun k => by rw [if_pos (by omega), if_pos (by omega)]) ?_
  have e : (decide (0 ≤ Lib.indexByte ((p.f0 ++ p.f1) ++ p.f2).data.toList 10)) = !(plP p) := by
    rw [← Lib.contains_iff_indexByte, show (p.f0 ++ p.f1 ++ p.f2).data.toList = (p.f0.data.toList ++ p.f1.data.toList) ++ p.f2.data.toList by simp [ByteArray.data_append]]
    simp only [plP, plB, List.contains_eq_any_beq, List.any_append, Bool.not_and, Bool.not_not, Bool.or_assoc]
  refine Ev.bind (a := !(plP p)) (Ev.congr (f := fun _ => some (!(plP p))) (fun k => ?_) (Ev.now _)) (Ev.congr (f := fun _ => some (plP p)) (fun k => by rw [Bool.not_not]) (Ev.now _))
  unfold strings_Contains.f
  rw [if_pos rfl, e]
def endB (s : ByteArray) : Bool := decide (0 < s.size) && (bt s ((s.size : Int) - 1) == 10)
theorem Ends_ok (s : ByteArray) (hs : s.size ≤ 1000000000000) : tripartiteref01_Ends.f s = some (endB s) := by
  unfold tripartiteref01_Ends.f endB
  by_cases h : 0 < s.size
  · rw [if_pos (by omega), w64 (by omega) (by omega), if_pos (by omega), if_pos (by omega), decide_eq_true h, Bool.true_and]
  · rw [if_neg (by omega), decide_eq_false h, Bool.false_and]
theorem win1 (l : List UInt8) (n : Nat) (h : n + 1 = l.length) : Lib.RK.win l n 1 = [l[n]'(by omega)] := by
  unfold Lib.RK.win
  rw [List.drop_eq_getElem_cons (by omega)]
  rfl
theorem Suffix_ok (s : ByteArray) (hs : s.size ≤ 1000000000000) : strings_HasSuffix.f s ⟨#[10]⟩ = some (endB s) := by
  unfold strings_HasSuffix.f stringslite_HasSuffix.f endB
  have e1 : ((⟨#[10]⟩ : ByteArray).size : Int) = 1 := rfl
  rw [e1]
  by_cases h : 0 < s.size
  · rw [if_pos (by omega), w64 (by omega) (by omega), if_pos (by omega), if_pos (by omega), decide_eq_true h, Bool.true_and, Option.bind_some]
    obtain ⟨n, hn⟩ : ∃ n, s.size = n + 1 := ⟨s.size - 1, by omega⟩
    have e2 : ((s.size : Int) - 1) = (n : Int) := by omega
    have hl : n + 1 = s.data.toList.length := by rw [← hn]; simp
    rw [e2, Int.toNat_natCast, ext_win, show s.size - n = 1 by omega, win1 _ _ hl, bt_get s n (by omega)]
    congr 1
    have e3 : (⟨#[10]⟩ : ByteArray).toList = [10] := by rw [ByteArray.toList_eq]
    rw [e3]
    by_cases h10 : s.data.toList[n]'(by omega) = 10
    · rw [h10]; rfl
    · have a1 : ([s.data.toList[n]'(by omega)] == [(10 : UInt8)]) = false := beq_eq_false_iff_ne.mpr (fun e => h10 (by injection e))
      have a2 : ((((s.data.toList[n]'(by omega)).toNat : Nat) : Int) == 10) = false := beq_eq_false_iff_ne.mpr (fun e => h10 ((ten _).1 e))
      rw [a1, a2]
  · rw [if_neg (by omega), decide_eq_false h, Bool.false_and, Option.bind_some]
end Res
end Go.Proofs.Ytadafplbgophfaa.Pure
end
section
namespace Go.Proofs.Ytadafplbgophfaa.Pure
namespace Res
open Go.RowKit Go.Proofs.Ytadafplbgophfaa.PA Go.Proofs.YtadafplbgophfaaW.PrintWords Go.Proofs.YtadafplbgophfaaW.PrintLast Go.Proofs.YtadafplbgophfaaW.PrintMore
def emp (s : ByteArray) : Bool := s.toList == []
theorem emp_iff {s : ByteArray} : s.toList = [] ↔ emp s = true := by unfold emp; exact (beq_iff_eq).symm
def txtB (p : S123) : Bool := (emp p.f0 && (emp p.f1 && emp p.f2)) && (!p.f3 && (emp p.f5 && (emp p.f6 && (emp p.f7 && !p.f8))))
def conB (p : S123) : Bool := p.f3 && (emp p.f4 && (p.f8 || (emp p.f6 && emp p.f1)))
theorem txt_f3 {p : S123} (h : txtB p = true) : p.f3 = false := by
  cases e : p.f3
  · rfl
  · simp [txtB, e] at h
theorem con_f3 {p : S123} (h : conB p = true) : p.f3 = true := by
  cases e : p.f3
  · simp [conB, e] at h
  · rfl
def rightGo : Bool → List S123 → Bool
  | _, [] => true
  | prev, p :: r => if txtB p = true then plP p && (!prev && (!(emp p.f4) && ((r.isEmpty || endB p.f4) && rightGo true r))) else (if conB p = true then plP p && rightGo false r else false)
theorem isText_ok (p : S123) : doc_Part_isText.f p.f0 p.f1 p.f2 p.f3 p.f4 p.f5 p.f6 p.f7 p.f8 = some (txtB p) := rfl
theorem emp_app (a b : ByteArray) : ((a ++ b).toList == []) = (emp a && emp b) := by
  unfold emp
  rw [ByteArray.toList_eq, ByteArray.toList_eq, ByteArray.toList_eq, show (a ++ b).data.toList = a.data.toList ++ b.data.toList by simp [ByteArray.data_append]]
  cases a.data.toList <;> simp
theorem isConflict_ok (p : S123) (h : szs p ≤ 3000) : doc_Part_isConflict.f p.f0 p.f1 p.f2 p.f3 p.f4 p.f5 p.f6 p.f7 p.f8 = some (conB p) := by
  unfold doc_Part_isConflict.f conB
  unfold szs at h
  by_cases h3 : p.f3 = true
  · rw [if_pos h3, h3, Bool.true_and]
    by_cases h4 : p.f4.toList = []
    · rw [if_pos h4, emp_iff.1 h4, Bool.true_and]
      by_cases h8 : p.f8 = true
      · rw [if_pos h8, h8, Bool.true_or]
      · rw [if_neg h8, if_pos (by omega), emp_app]
        have : p.f8 = false := by simpa using h8
        rw [this, Bool.false_or]
    · rw [if_neg h4]
      have : emp p.f4 = false := by
        cases e : emp p.f4
        · rfl
        · exact absurd (emp_iff.2 e) h4
      rw [this, Bool.false_and]
  · rw [if_neg h3]
    have : p.f3 = false := by simpa using h3
    rw [this, Bool.false_and]
theorem one_ok (p : S123) : tripartiteref07_one.f p.f0 p.f1 p.f2 p.f3 p.f4 p.f5 p.f6 p.f7 p.f8 = some (txtB p || conB p) := by
  unfold tripartiteref07_one.f txtB conB
  by_cases h3 : p.f3 = true
  · rw [if_pos h3, h3]
    simp only [Bool.not_true, Bool.false_and, Bool.and_false, Bool.false_or, Bool.true_and]
    by_cases h4 : p.f4.toList = []
    · rw [if_pos h4, emp_iff.1 h4, Bool.true_and]
      by_cases h8 : p.f8 = true
      · rw [if_pos h8, h8, Bool.true_or]
      · rw [if_neg h8]
        have : p.f8 = false := by simpa using h8
        rw [this, Bool.false_or]
        by_cases h6 : p.f6.toList = []
        · rw [if_pos h6, emp_iff.1 h6, Bool.true_and]; rfl
        · rw [if_neg h6]
          have : emp p.f6 = false := by
            cases e : emp p.f6
            · rfl
            · exact absurd (emp_iff.2 e) h6
          rw [this, Bool.false_and]
    · rw [if_neg h4]
      have : emp p.f4 = false := by
        cases e : emp p.f4
        · rfl
        · exact absurd (emp_iff.2 e) h4
      rw [this, Bool.false_and]
  · rw [if_neg h3]
    have : p.f3 = false := by simpa using h3
    rw [this]
    simp only [Bool.not_false, Bool.false_and, Bool.or_false, Bool.true_and]
    unfold emp
    cases (p.f0.toList == []) <;> cases (p.f1.toList == []) <;> rfl
theorem prog_right (d : List S123) (hd : d.length ≤ 60) (hs : ∀ p ∈ d, szs p ≤ 3000) : ∀ (n i : Nat) (prev : Bool), d.length - i ≤ n → i ≤ d.length →
    Ev (fun k => doc_Doc_Right.l0 k (d.map of123) prev (d.map of123) ((d.map of123).length : Int) i) (rightGo prev (d.drop i)) := by
  have hx : (d.map of123).length = d.length := List.length_map _
  intro n
  induction n with
  | zero =>
    intro i prev h1 h2
    refine Ev.step (f := fun _ => some true) (fun k => ?_) ?_
    · simp only [doc_Doc_Right.l0]; rw [if_neg (by omega)]
    · rw [List.drop_of_length_le (by omega)]; exact Ev.now _
  | succ n ih =>
    intro i prev h1 h2
    by_cases hi : i < d.length
    rotate_left
    · refine Ev.step (f := fun _ => some true) (fun k => ?_) ?_
      · simp only [doc_Doc_Right.l0]; rw [if_neg (by omega)]
      · rw [List.drop_of_length_le (by omega)]; exact Ev.now _
    have hp := hs d[i] (List.getElem_mem hi)
    have hemp : (d.drop (i + 1)).isEmpty = decide (d.length ≤ i + 1) := by
      by_cases h : d.length ≤ i + 1
      · rw [List.drop_of_length_le h, decide_eq_true h]; rfl
      · rw [decide_eq_false h, List.drop_eq_getElem_cons (by omega)]; rfl
    have ih1 := fun b => ih (i + 1) b (by omega) (by omega)
    rw [List.drop_eq_getElem_cons hi]
    have rdp := rdmap hi
    generalize d[i] = p at hp rdp
    have hz := hp
    unfold szs at hz
    -- the last part
    have J2 : Ev (fun k => doc_Doc_Right.j2 k (d.map of123) prev i (d.map of123) ((d.map of123).length : Int) i false p.f0 p.f1 p.f2 p.f3 p.f4 p.f5 p.f6 p.f7 p.f8)
        (if txtB p = true then (!prev && (!(emp p.f4) && (((d.drop (i + 1)).isEmpty || endB p.f4) && rightGo true (d.drop (i + 1))))) else rightGo false (d.drop (i + 1))) := by
      refine Ev.step (f := fun k => (some (txtB p)).bind fun t106 => (if t106 = true then (if prev = true then (some false) else (if p.f4.toList = ([] : List UInt8) then (some false) else (if (i : Int) < (wrap64 (((d.map of123).length : Int) - 1)) then ((some (endB p.f4)).bind fun t107 => (if t107 = true then ((some (txtB p)).bind fun t108 => (doc_Doc_Right.l0 k (d.map of123) t108 (d.map of123) ((d.map of123).length : Int) (wrap64 ((i : Int) + 1)))) else (some false))) else ((some (txtB p)).bind fun t109 => (doc_Doc_Right.l0 k (d.map of123) t109 (d.map of123) ((d.map of123).length : Int) (wrap64 ((i : Int) + 1))))))) else ((some (txtB p)).bind fun t110 => (doc_Doc_Right.l0 k (d.map of123) t110 (d.map of123) ((d.map of123).length : Int) (wrap64 ((i : Int) + 1)))))) (fun k => ?_) ?_
      · simp only [doc_Doc_Right.j2]; rw [if_neg (by decide), Suffix_ok _ (by omega)]; rfl
      · rw [w64 (by omega) (by omega), w64 (by omega) (by omega)]
        cases ht : txtB p
        · refine Ev.congr (fun k => by rw [Option.bind_some, if_neg (by decide), Option.bind_some]) ?_
          rw [if_neg (by decide)]
          exact ih1 false
        · rw [if_pos rfl]
          cases prev
          · by_cases h4 : p.f4.toList = []
            · refine Ev.congr (f := fun _ => some false) (fun k => by rw [Option.bind_some, if_pos rfl, if_neg (by decide), if_pos h4]) ?_
              rw [emp_iff.1 h4]; exact Ev.now _
            · have e4 : emp p.f4 = false := by
                cases e : emp p.f4
                · rfl
                · exact absurd (emp_iff.2 e) h4
              rw [e4]
              simp only [Bool.not_false, Bool.true_and]
              by_cases hl : d.length ≤ i + 1
              · refine Ev.congr (f := fun k => doc_Doc_Right.l0 k (d.map of123) true (d.map of123) ((d.map of123).length : Int) ((i : Int) + 1)) (fun k => by rw [Option.bind_some, if_pos rfl, if_neg (by decide), if_neg h4, if_neg (by omega), Option.bind_some]) ?_
                rw [hemp, decide_eq_true hl, Bool.true_or, Bool.true_and]
                exact ih1 true
              · rw [hemp, decide_eq_false hl, Bool.false_or]
                cases he : endB p.f4
                · refine Ev.congr (f := fun _ => some false) (fun k => by rw [Option.bind_some, if_pos rfl, if_neg (by decide), if_neg h4, if_pos (by omega), Option.bind_some, if_neg (by decide)]) ?_
                  exact Ev.now _
                · refine Ev.congr (f := fun k => doc_Doc_Right.l0 k (d.map of123) true (d.map of123) ((d.map of123).length : Int) ((i : Int) + 1)) (fun k => by rw [Option.bind_some, if_pos rfl, if_neg (by decide), if_neg h4, if_pos (by omega), Option.bind_some, if_pos rfl, Option.bind_some]) ?_
                  rw [Bool.true_and]
                  exact ih1 true
          · refine Ev.congr (f := fun _ => some false) (fun k => by rw [Option.bind_some, if_pos rfl, if_pos rfl]) ?_
            exact Ev.now _
    have J2f : Ev (fun k => doc_Doc_Right.j2 k (d.map of123) prev i (d.map of123) ((d.map of123).length : Int) i true p.f0 p.f1 p.f2 p.f3 p.f4 p.f5 p.f6 p.f7 p.f8) false :=
      Ev.step (f := fun _ => some false) (fun k => by simp only [doc_Doc_Right.j2]; rw [if_pos trivial]) (Ev.now _)
    have J1 : Ev (fun k => doc_Doc_Right.j1 k (d.map of123) prev i (d.map of123) ((d.map of123).length : Int) i false p.f0 p.f1 p.f2 p.f3 p.f4 p.f5 p.f6 p.f7 p.f8)
        (plP p && (if txtB p = true then (!prev && (!(emp p.f4) && (((d.drop (i + 1)).isEmpty || endB p.f4) && rightGo true (d.drop (i + 1))))) else rightGo false (d.drop (i + 1)))) := by
      refine Ev.step (f := fun k => (doc_Labels_Plain.f k p.f0 p.f1 p.f2).bind fun t105 => doc_Doc_Right.j2 k (d.map of123) prev i (d.map of123) ((d.map of123).length : Int) i (!t105) p.f0 p.f1 p.f2 p.f3 p.f4 p.f5 p.f6 p.f7 p.f8) (fun k => ?_) ?_
      · simp only [doc_Doc_Right.j1]; rw [if_neg (by decide)]
      · refine Ev.bind (Labels_ok p (by omega) (by omega) (by omega)) ?_
        cases plP p
        · exact J2f
        · rw [Bool.true_and]; exact J2
    have J1f : Ev (fun k => doc_Doc_Right.j1 k (d.map of123) prev i (d.map of123) ((d.map of123).length : Int) i true p.f0 p.f1 p.f2 p.f3 p.f4 p.f5 p.f6 p.f7 p.f8) false :=
      Ev.step (f := fun k => doc_Doc_Right.j2 k (d.map of123) prev i (d.map of123) ((d.map of123).length : Int) i true p.f0 p.f1 p.f2 p.f3 p.f4 p.f5 p.f6 p.f7 p.f8) (fun k => by simp only [doc_Doc_Right.j1]; rw [if_pos trivial]) J2f
    refine Ev.step (f := fun k => (some (txtB p)).bind fun t103 => (if t103 = true then (doc_Doc_Right.j1 k (d.map of123) prev i (d.map of123) ((d.map of123).length : Int) i false p.f0 p.f1 p.f2 p.f3 p.f4 p.f5 p.f6 p.f7 p.f8) else ((some (conB p)).bind fun t104 => (doc_Doc_Right.j1 k (d.map of123) prev i (d.map of123) ((d.map of123).length : Int) i (!t104) p.f0 p.f1 p.f2 p.f3 p.f4 p.f5 p.f6 p.f7 p.f8)))) (fun k => ?_) ?_
    · simp only [doc_Doc_Right.l0]
      rw [if_pos (by omega), if_pos (by omega), if_pos (by omega), rdp, ← isConflict_ok p hp]
      rfl
    · unfold rightGo
      cases ht : txtB p
      · rw [if_neg (by decide)]
        refine Ev.congr (fun k => by rw [Option.bind_some, if_neg (by decide), Option.bind_some]) ?_
        rw [ht, if_neg (by decide)] at J1
        cases conB p
        · rw [if_neg (by decide)]; exact J1f
        · rw [if_pos rfl]; exact J1
      · rw [if_pos rfl]
        refine Ev.congr (fun k => by rw [Option.bind_some, if_pos rfl]) ?_
        rw [ht, if_pos rfl] at J1
        exact J1
theorem prog_right_ok (d : List S123) (hd : d.length ≤ 60) (hs : ∀ p ∈ d, szs p ≤ 3000) : Ev (fun k => doc_Doc_Right.f k (d.map of123)) (rightGo false d) := by
  have := prog_right d hd hs d.length 0 false (by omega) (by omega)
  rw [List.drop_zero] at this
  exact this
def prevAt (d : List S123) (i : Nat) : Bool := decide (0 < i) && !(rd_T123 d ((i : Int) - 1)).f3
theorem ref_right (d : List S123) (hd : d.length ≤ 60) (hs : ∀ p ∈ d, szs p ≤ 3000) : ∀ (n i : Nat), d.length - i ≤ n → i ≤ d.length →
    Ev (fun k => tripartiteref07_Right.l0 k d i) (rightGo (prevAt d i) (d.drop i)) := by
  intro n
  induction n with
  | zero =>
    intro i h1 h2
    refine Ev.step (f := fun _ => some true) (fun k => ?_) ?_
    · simp only [tripartiteref07_Right.l0]; rw [if_neg (by omega)]
    · rw [List.drop_of_length_le (by omega)]; exact Ev.now _
  | succ n ih =>
    intro i h1 h2
    by_cases hi : i < d.length
    rotate_left
    · refine Ev.step (f := fun _ => some true) (fun k => ?_) ?_
      · simp only [tripartiteref07_Right.l0]; rw [if_neg (by omega)]
      · rw [List.drop_of_length_le (by omega)]; exact Ev.now _
    have hp := hs d[i] (List.getElem_mem hi)
    have hemp : (d.drop (i + 1)).isEmpty = decide (d.length ≤ i + 1) := by
      by_cases h : d.length ≤ i + 1
      · rw [List.drop_of_length_le h, decide_eq_true h]; rfl
      · rw [decide_eq_false h, List.drop_eq_getElem_cons (by omega)]; rfl
    have ih1 := ih (i + 1) (by omega) (by omega)
    have hpv : prevAt d (i + 1) = !(d[i]).f3 := by
      unfold prevAt
      rw [show (((i + 1 : Nat) : Int) - 1) = (i : Int) by omega, rd123 hi, decide_eq_true (by omega), Bool.true_and]
    rw [hpv] at ih1
    rw [List.drop_eq_getElem_cons hi]
    have rdp := rd123 hi
    generalize d[i] = p at hp rdp ih1
    have hz := hp
    unfold szs at hz
    have J1f : Ev (fun k => tripartiteref07_Right.j1 k d i true p.f0 p.f1 p.f2 p.f3 p.f4 p.f5 p.f6 p.f7 p.f8) false :=
      Ev.step (f := fun _ => some false) (fun k => by simp only [tripartiteref07_Right.j1]; rw [if_pos trivial]) (Ev.now _)
    have J1 : (txtB p || conB p) = true → Ev (fun k => tripartiteref07_Right.j1 k d i false p.f0 p.f1 p.f2 p.f3 p.f4 p.f5 p.f6 p.f7 p.f8)
        (if txtB p = true then (!(prevAt d i) && (!(emp p.f4) && (((d.drop (i + 1)).isEmpty || endB p.f4) && rightGo true (d.drop (i + 1))))) else rightGo false (d.drop (i + 1))) := by
      intro hone
      refine Ev.step (f := fun k => if p.f3 = true then tripartiteref07_Right.l0 k d ((i : Int) + 1) else (if p.f4.toList = ([] : List UInt8) then (some false) else (if (i : Int) > 0 then (if ((rd_T123 d ((i : Int) - 1)).f3 = true) then (if ((i : Int) + 1) < (d.length : Int) then ((some (endB p.f4)).bind fun t106 => (if t106 = true then (tripartiteref07_Right.l0 k d ((i : Int) + 1)) else (some false))) else (tripartiteref07_Right.l0 k d ((i : Int) + 1))) else (some false)) else (if ((i : Int) + 1) < (d.length : Int) then ((some (endB p.f4)).bind fun t107 => (if t107 = true then (tripartiteref07_Right.l0 k d ((i : Int) + 1)) else (some false))) else (tripartiteref07_Right.l0 k d ((i : Int) + 1)))))) (fun k => ?_) ?_
      · simp only [tripartiteref07_Right.j1]
        rw [if_neg (by decide), Ends_ok _ (by omega), w64 (by omega) (by omega), w64 (by omega) (by omega)]
        by_cases h0 : (i : Int) > 0
        · rw [if_pos h0, if_pos h0, if_pos (show (0 : Int) ≤ (i : Int) - 1 by omega), if_pos (show (i : Int) - 1 < (d.length : Int) by omega)]
        · rw [if_neg h0, if_neg h0]
      · cases ht : txtB p
        · have h3 : p.f3 = true := con_f3 (by rw [ht, Bool.false_or] at hone; exact hone)
          refine Ev.congr (fun k => by rw [if_pos h3]) ?_
          rw [if_neg (by decide)]
          rw [h3] at ih1
          exact ih1
        · have h3 : p.f3 = false := txt_f3 ht
          rw [h3] at ih1
          rw [if_pos rfl]
          by_cases h4 : p.f4.toList = []
          · refine Ev.congr (f := fun _ => some false) (fun k => by rw [if_neg (by rw [h3]; decide), if_pos h4]) ?_
            rw [emp_iff.1 h4]
            simp only [Bool.not_true, Bool.false_and, Bool.and_false]
            exact Ev.now _
          · have e4 : emp p.f4 = false := by
              cases e : emp p.f4
              · rfl
              · exact absurd (emp_iff.2 e) h4
            rw [e4]
            simp only [Bool.not_false, Bool.true_and]
            have tail : Ev (fun k => if ((i : Int) + 1) < (d.length : Int) then ((some (endB p.f4)).bind fun t107 => (if t107 = true then (tripartiteref07_Right.l0 k d ((i : Int) + 1)) else (some false))) else (tripartiteref07_Right.l0 k d ((i : Int) + 1))) (((d.drop (i + 1)).isEmpty || endB p.f4) && rightGo true (d.drop (i + 1))) := by
              by_cases hl : d.length ≤ i + 1
              · refine Ev.congr (fun k => by rw [if_neg (by omega)]) ?_
                rw [hemp, decide_eq_true hl, Bool.true_or, Bool.true_and]
                exact ih1
              · rw [hemp, decide_eq_false hl, Bool.false_or]
                cases he : endB p.f4
                · exact Ev.congr (f := fun _ => some false) (fun k => by rw [if_pos (by omega), Option.bind_some, if_neg (by decide)]) (Ev.now _)
                · refine Ev.congr (fun k => by rw [if_pos (by omega), Option.bind_some, if_pos rfl]) ?_
                  rw [Bool.true_and]
                  exact ih1
            by_cases h0 : 0 < i
            · unfold prevAt
              rw [decide_eq_true h0, Bool.true_and, Bool.not_not]
              by_cases hpf : (rd_T123 d ((i : Int) - 1)).f3 = true
              · refine Ev.congr (fun k => by rw [if_neg (by rw [h3]; decide), if_neg h4, if_pos (by omega), if_pos hpf]) ?_
                rw [hpf, Bool.true_and]
                exact tail
              · refine Ev.congr (f := fun _ => some false) (fun k => by rw [if_neg (by rw [h3]; decide), if_neg h4, if_pos (by omega), if_neg hpf]) ?_
                rw [show (rd_T123 d ((i : Int) - 1)).f3 = false by simpa using hpf, Bool.false_and]
                exact Ev.now _
            · unfold prevAt
              rw [decide_eq_false h0, Bool.false_and, Bool.not_false, Bool.true_and]
              refine Ev.congr (fun k => by rw [if_neg (by rw [h3]; decide), if_neg h4, if_neg (by omega)]) ?_
              exact tail
    refine Ev.step (f := fun k => (some (txtB p || conB p)).bind fun t103 => (if t103 = true then ((tripartiteref07_Plain.f k p.f0 p.f1 p.f2 p.f3 p.f4 p.f5 p.f6 p.f7 p.f8).bind fun t104 => (tripartiteref07_Right.j1 k d i (!t104) p.f0 p.f1 p.f2 p.f3 p.f4 p.f5 p.f6 p.f7 p.f8)) else (tripartiteref07_Right.j1 k d i true p.f0 p.f1 p.f2 p.f3 p.f4 p.f5 p.f6 p.f7 p.f8))) (fun k => ?_) ?_
    · simp only [tripartiteref07_Right.l0]
      rw [if_pos (by omega), if_pos (by omega), rdp, one_ok]
    · unfold rightGo
      cases hone : (txtB p || conB p)
      · have ht : txtB p = false := by cases h : txtB p with | false => rfl | true => rw [h] at hone; simp at hone
        have hc : conB p = false := by cases h : conB p with | false => rfl | true => rw [h, Bool.or_true] at hone; simp at hone
        rw [ht, hc, if_neg (by decide), if_neg (by decide)]
        exact Ev.congr (fun k => by rw [Option.bind_some, if_neg (by decide)]) J1f
      · have J := J1 hone
        refine Ev.congr (fun k => by rw [Option.bind_some, if_pos rfl]) ?_
        refine Ev.bind (Plain_ok p (by omega) (by omega) (by omega)) ?_
        cases ht : txtB p
        · have hc : conB p = true := by rw [ht, Bool.false_or] at hone; exact hone
          rw [ht, if_neg (by decide)] at J
          rw [if_neg (by decide), hc, if_pos rfl]
          cases plP p
          · exact J1f
          · rw [Bool.true_and]; exact J
        · rw [ht, if_pos rfl] at J
          rw [if_pos rfl]
          cases plP p
          · exact J1f
          · rw [Bool.true_and]; exact J
theorem ref_right_ok (d : List S123) (hd : d.length ≤ 60) (hs : ∀ p ∈ d, szs p ≤ 3000) : Ev (fun k => tripartiteref07_Right.f k d) (rightGo false d) := by
  have := ref_right d hd hs d.length 0 (by omega) (by omega)
  rw [List.drop_zero] at this
  exact this
end Res
end Go.Proofs.Ytadafplbgophfaa.Pure
end
section
namespace Go.Proofs.Ytadafplbgophfaa.PA
open Go.RowKit Go.Proofs.YtadafplbgophfaaW.PrintWords Go.Proofs.YtadafplbgophfaaW.PrintLast Go.Proofs.YtadafplbgophfaaW.PrintMore
attribute [local go_sem] max2_int min2_int max_two min_two max_three min_three max_four min_four   -- for this text's walks alone
set_option linter.unusedVariables false
set_option linter.unusedSimpArgs false
def resolve_One.j0 : Nat → List (S120) → Int → ByteArray → Bool → Option ((List (S120)) × Int)
 | 0, _, _, _, _ => none
 | k + 1, x0, x8, x9, x35 => if x35 = true then (some (([] : List (S120)), 11)) else ((doc_Part.f k x0).bind fun t107 => (if 0 ≤ x8 then (if x8 < (t107.length : Int) then ((doc_Of.f k (t107.set (x8 : Int).toNat (⟨(⟨(⟨#[]⟩ : ByteArray), (⟨#[]⟩ : ByteArray), (⟨#[]⟩ : ByteArray)⟩ : S116), false, x9, (⟨#[]⟩ : ByteArray), (⟨#[]⟩ : ByteArray), (⟨#[]⟩ : ByteArray), false⟩ : S120))).bind fun t111 => (some (t111, 0))) else (none)) else (none)))
def resolve_One.f (k : Nat) (l0 : List (S120)) (a1 : Int) (a2 : Int) : Option ((List (S120)) × Int) := (resolve_nth.f k l0 a1).bind fun t101 => ((doc_Doc_Right.f k l0).bind fun t102 => (if t102 = true then (if t101 < 0 then (some (([] : List (S120)), 1)) else (if 0 ≤ t101 then (if t101 < (l0.length : Int) then ((resolve_pick.f k ((rd_T120 l0 t101).f0.f0) ((rd_T120 l0 t101).f0.f1) ((rd_T120 l0 t101).f0.f2) ((rd_T120 l0 t101).f1) ((rd_T120 l0 t101).f2) ((rd_T120 l0 t101).f3) ((rd_T120 l0 t101).f4) ((rd_T120 l0 t101).f5) ((rd_T120 l0 t101).f6) a2).bind fun bt104 => (if bt104.2 = 0 then (if bt104.1.toList = ([] : List UInt8) then (resolve_One.j0 k l0 t101 bt104.1 false) else ((strings_HasSuffix.f bt104.1 (⟨#[10]⟩ : ByteArray)).bind fun t106 => (if t106 = true then (resolve_One.j0 k l0 t101 bt104.1 false) else (resolve_One.j0 k l0 t101 bt104.1 (decide (t101 < (wrap64 ((l0.length : Int) - 1)))))))) else (some (([] : List (S120)), bt104.2)))) else (none)) else (none))) else (some (([] : List (S120)), 11))))
theorem resolve_One.mono_l : ∀ k, (∀ y0 y1 y2 y3, LeO (resolve_One.j0 k y0 y1 y2 y3) (resolve_One.j0 (k + 1) y0 y1 y2 y3))
 | 0 => fun _ _ _ _ r h => by simp [resolve_One.j0] at h
 | k + 1 => by
  have ih0 := resolve_One.mono_l k
  ·intro y0 y1 y2 y3
   unfold resolve_One.j0
   repeat' first
   | (with_reducible exact ih0 _ _ _ _)
   | (with_reducible exact doc_Doc_Right.mono _ _)
   | (with_reducible exact doc_Of.mono _ _)
   | (with_reducible exact doc_Part.mono _ _)
   | (with_reducible exact resolve_nth.mono _ _ _)
   | (with_reducible exact resolve_pick.mono _ _ _ _ _ _ _ _ _ _ _)
   | (with_reducible exact LeO.refl _)
   | (with_reducible exact LeO.none _)
   | (with_reducible refine LeO.ite ?_ ?_)
   | (with_reducible refine LeO.bind ?_ (fun _ => ?_))
   | exact ih0 _ _ _ _
   | exact doc_Doc_Right.mono _ _
   | exact doc_Of.mono _ _
   | exact doc_Part.mono _ _
   | exact resolve_nth.mono _ _ _
   | exact resolve_pick.mono _ _ _ _ _ _ _ _ _ _ _
   | exact LeO.none _
   | refine LeO.ite ?_ ?_
   | refine LeO.bind ?_ (fun _ => ?_)
theorem resolve_One.mono : ∀ a0 a1 a2 k, LeO (resolve_One.f k a0 a1 a2) (resolve_One.f (k + 1) a0 a1 a2) := by
 intro a0 a1 a2 k
 have ih0 := resolve_One.mono_l k
 unfold resolve_One.f
 repeat' first
   | (with_reducible exact ih0 _ _ _ _)
   | (with_reducible exact doc_Doc_Right.mono _ _)
   | (with_reducible exact doc_Of.mono _ _)
   | (with_reducible exact doc_Part.mono _ _)
   | (with_reducible exact resolve_nth.mono _ _ _)
   | (with_reducible exact resolve_pick.mono _ _ _ _ _ _ _ _ _ _ _)
   | (with_reducible exact LeO.refl _)
   | (with_reducible exact LeO.none _)
   | (with_reducible refine LeO.ite ?_ ?_)
   | (with_reducible refine LeO.bind ?_ (fun _ => ?_))
   | exact ih0 _ _ _ _
   | exact doc_Doc_Right.mono _ _
   | exact doc_Of.mono _ _
   | exact doc_Part.mono _ _
   | exact resolve_nth.mono _ _ _
   | exact resolve_pick.mono _ _ _ _ _ _ _ _ _ _ _
   | exact LeO.none _
   | refine LeO.ite ?_ ?_
   | refine LeO.bind ?_ (fun _ => ?_)
set_option maxHeartbeats 8000000 in
set_option maxRecDepth 100000 in
theorem resolve_One.calls (k : Nat) (A0 : Option Addr) (c0 : Nat) (l0 : List (S120)) (a1 : Int) (a2 : Int) (r1 : List (S120)) (r2 : Int) (w : World) (hr0 : Kd.C k120 w A0 l0.length l0) (hc0 : l0.length ≤ c0) (h : resolve_One.f k l0 a1 a2 = some (r1, r2)) :
  Calls Try.prog 68 #[.slice A0 l0.length c0, .int .i64 a1, .int .i64 a2] w fun e w' => ∃ v0_ : Value, e = .returned (.tuple #[v0_, .int .i64 r2]) ∧ Kd.R k120 120 w' w.heap.size (fun _ => True) v0_ r1 ∧ Below w.heap.size w w' := by
 have hu120 := Try.underlying120
 have HR0 := Aside0.mk hr0
 have HC0 := Aside0.mk hc0
 clear hr0 hc0
 have HB := Aside0.mk (Below.refl w.heap.size w)
 have H : ((resolve_nth.f k l0 a1).bind fun t101 => ((doc_Doc_Right.f k l0).bind fun t102 => (if t102 = true then (if t101 < 0 then (some (([] : List (S120)), 1)) else (if 0 ≤ t101 then (if t101 < (l0.length : Int) then ((resolve_pick.f k ((rd_T120 l0 t101).f0.f0) ((rd_T120 l0 t101).f0.f1) ((rd_T120 l0 t101).f0.f2) ((rd_T120 l0 t101).f1) ((rd_T120 l0 t101).f2) ((rd_T120 l0 t101).f3) ((rd_T120 l0 t101).f4) ((rd_T120 l0 t101).f5) ((rd_T120 l0 t101).f6) a2).bind fun bt104 => (if bt104.2 = 0 then (if bt104.1.toList = ([] : List UInt8) then (resolve_One.j0 k l0 t101 bt104.1 false) else ((strings_HasSuffix.f bt104.1 (⟨#[10]⟩ : ByteArray)).bind fun t106 => (if t106 = true then (resolve_One.j0 k l0 t101 bt104.1 false) else (resolve_One.j0 k l0 t101 bt104.1 (decide (t101 < (wrap64 ((l0.length : Int) - 1)))))))) else (some (([] : List (S120)), bt104.2)))) else (none)) else (none))) else (some (([] : List (S120)), 11))))) = some (r1, r2) := h
 clear h
 replace H := Option.bind_eq_some_iff.mp H
 obtain ⟨t101, A40, H⟩ := H
 replace H : ((doc_Doc_Right.f k l0).bind fun t102 => (if t102 = true then (if t101 < 0 then (some (([] : List (S120)), 1)) else (if 0 ≤ t101 then (if t101 < (l0.length : Int) then ((resolve_pick.f k ((rd_T120 l0 t101).f0.f0) ((rd_T120 l0 t101).f0.f1) ((rd_T120 l0 t101).f0.f2) ((rd_T120 l0 t101).f1) ((rd_T120 l0 t101).f2) ((rd_T120 l0 t101).f3) ((rd_T120 l0 t101).f4) ((rd_T120 l0 t101).f5) ((rd_T120 l0 t101).f6) a2).bind fun bt104 => (if bt104.2 = 0 then (if bt104.1.toList = ([] : List UInt8) then (resolve_One.j0 k l0 t101 bt104.1 false) else ((strings_HasSuffix.f bt104.1 (⟨#[10]⟩ : ByteArray)).bind fun t106 => (if t106 = true then (resolve_One.j0 k l0 t101 bt104.1 false) else (resolve_One.j0 k l0 t101 bt104.1 (decide (t101 < (wrap64 ((l0.length : Int) - 1)))))))) else (some (([] : List (S120)), bt104.2)))) else (none)) else (none))) else (some (([] : List (S120)), 11)))) = some (r1, r2) := H
 have A4 := Aside0.mk A40
 clear A40
 replace H := Option.bind_eq_some_iff.mp H
 obtain ⟨t102, A50, H⟩ := H
 replace H : (if t102 = true then (if t101 < 0 then (some (([] : List (S120)), 1)) else (if 0 ≤ t101 then (if t101 < (l0.length : Int) then ((resolve_pick.f k ((rd_T120 l0 t101).f0.f0) ((rd_T120 l0 t101).f0.f1) ((rd_T120 l0 t101).f0.f2) ((rd_T120 l0 t101).f1) ((rd_T120 l0 t101).f2) ((rd_T120 l0 t101).f3) ((rd_T120 l0 t101).f4) ((rd_T120 l0 t101).f5) ((rd_T120 l0 t101).f6) a2).bind fun bt104 => (if bt104.2 = 0 then (if bt104.1.toList = ([] : List UInt8) then (resolve_One.j0 k l0 t101 bt104.1 false) else ((strings_HasSuffix.f bt104.1 (⟨#[10]⟩ : ByteArray)).bind fun t106 => (if t106 = true then (resolve_One.j0 k l0 t101 bt104.1 false) else (resolve_One.j0 k l0 t101 bt104.1 (decide (t101 < (wrap64 ((l0.length : Int) - 1)))))))) else (some (([] : List (S120)), bt104.2)))) else (none)) else (none))) else (some (([] : List (S120)), 11))) = some (r1, r2) := H
 have A5 := Aside0.mk A50
 clear A50
 by_cases c6 : t102 = true
 ·subst c6
  have H1 : (if t101 < 0 then (some (([] : List (S120)), 1)) else (if 0 ≤ t101 then (if t101 < (l0.length : Int) then ((resolve_pick.f k ((rd_T120 l0 t101).f0.f0) ((rd_T120 l0 t101).f0.f1) ((rd_T120 l0 t101).f0.f2) ((rd_T120 l0 t101).f1) ((rd_T120 l0 t101).f2) ((rd_T120 l0 t101).f3) ((rd_T120 l0 t101).f4) ((rd_T120 l0 t101).f5) ((rd_T120 l0 t101).f6) a2).bind fun bt104 => (if bt104.2 = 0 then (if bt104.1.toList = ([] : List UInt8) then (resolve_One.j0 k l0 t101 bt104.1 false) else ((strings_HasSuffix.f bt104.1 (⟨#[10]⟩ : ByteArray)).bind fun t106 => (if t106 = true then (resolve_One.j0 k l0 t101 bt104.1 false) else (resolve_One.j0 k l0 t101 bt104.1 (decide (t101 < (wrap64 ((l0.length : Int) - 1)))))))) else (some (([] : List (S120)), bt104.2)))) else (none)) else (none))) = some (r1, r2) := by rw [if_pos rfl] at H; exact H
  clear H
  have H := H1
  clear H1
  by_cases c7 : t101 < 0
  ·rw [if_pos c7] at H
   have c7b0 : decide (t101 < 0) = true := decide_eq_true c7
   clear c7
   simp only [Option.some.injEq, Prod.mk.injEq] at H
   obtain ⟨rfl, rfl⟩ := H
   go_enter Try.func68, Try.ntmps68
   go_wp2_with (first | ((with_reducible refine gate_callee (f := 108) rfl ?_); refine goesL_ (some 14) rfl rfl Try.func108 (by kernel_rfl) rfl #[.slice A0 l0.length c0, .int .i64 a1] rfl (by (try simp only [List.map_toArray, List.map_cons, List.map_nil]); first | done | rfl | (simp only [List.length_drop, List.length_take]; rfl)) ?_; (with_reducible refine (resolve_nth.calls k _ _ l0 a1 t101 _ ?side1 ?side2 A4.out).mono ?_); (case side1 => repeat (first | exact HR0.out | (with_reducible refine Kd.C_alloc ?_ _) | (with_reducible refine Kd.C_drewN ?_ _) | (with_reducible refine Kd.C_drew ?_))); (case side2 => exact HC0.out); rintro e w8 ⟨rfl, hb⟩; refine ⟨_, rfl, ?_⟩; have n0_ := Aside0.mk (below_step (by repeat (first | (with_reducible first | exact HB.out | apply below_alloc | apply pw_below_drewN | apply below_drew1) | exact HB.out)) hb); clear HB; have HB := n0_; clear n0_; (try clear hb); (try clear hb2); (try clear hk); (try clear hi)) | ((with_reducible refine gate_callee (f := 70) rfl ?_); refine goesL_ (some 17) rfl rfl Try.func70 (by kernel_rfl) rfl #[.slice A0 l0.length c0] rfl (by (try simp only [List.map_toArray, List.map_cons, List.map_nil]); first | done | rfl | (simp only [List.length_drop, List.length_take]; rfl)) ?_; (with_reducible refine (doc_Doc_Right.calls k _ _ l0 true _ ?side1 ?side2 A5.out).mono ?_); (case side1 => repeat (first | exact (Kd.C_below HR0.out HB.out) | (with_reducible refine Kd.C_alloc ?_ _) | (with_reducible refine Kd.C_drewN ?_ _) | (with_reducible refine Kd.C_drew ?_))); (case side2 => exact HC0.out); rintro e w9 ⟨rfl, hb⟩; refine ⟨_, rfl, ?_⟩; have n0_ := Aside0.mk (below_step (by repeat (first | (with_reducible first | exact HB.out | apply below_alloc | apply pw_below_drewN | apply below_drew1) | exact HB.out)) hb); clear HB; have HB := n0_; clear n0_; (try clear hb); (try clear hb2); (try clear hk); (try clear hi)))
   go_ret2
   exact ⟨_, by first | rfl | (simp [errW_none, errW_some] <;> rfl) | (simp [*, errW_none, errW_some] <;> rfl), by first | exact Kd.R_nil _ _ _ _ _ | exact Kd.N_nil _ _ _ _ _ | exact Kd.V_nil _ _ _ _ _ | exact Kd.Q_nil _ _ _ _ _ | exact Kd.S_nil _ _ _ _ _, by repeat (first | (with_reducible first | exact HB.out | apply below_alloc | apply pw_below_drewN | apply below_drew1) | exact HB.out)⟩
  ·rw [if_neg c7] at H
   have c7b0 : decide (t101 < 0) = false := decide_eq_false c7
   clear c7
   by_cases c10 : 0 ≤ t101
   ·rw [if_pos c10] at H
    have c10b0 : decide (0 ≤ t101) = true := decide_eq_true c10
    clear c10
    by_cases c11 : t101 < (l0.length : Int)
    ·rw [if_pos c11] at H
     have c11b0 : decide (t101 < (l0.length : Int)) = true := decide_eq_true c11
     clear c11
     replace H := Option.bind_eq_some_iff.mp H
     obtain ⟨⟨t104, t105⟩, A120, H⟩ := H
     replace H : (if t105 = 0 then (if t104.toList = ([] : List UInt8) then (resolve_One.j0 k l0 t101 t104 false) else ((strings_HasSuffix.f t104 (⟨#[10]⟩ : ByteArray)).bind fun t106 => (if t106 = true then (resolve_One.j0 k l0 t101 t104 false) else (resolve_One.j0 k l0 t101 t104 (decide (t101 < (wrap64 ((l0.length : Int) - 1)))))))) else (some (([] : List (S120)), t105))) = some (r1, r2) := H
     have A12 := Aside0.mk A120
     clear A120
     by_cases c13 : t105 = 0
     ·rw [if_pos c13] at H
      have c13b0 : (t105 == 0) = true := beq_iff_eq.mpr c13
      have c13b1 : (t105 != 0) = false := bne_eq_false_iff_eq.mpr c13
      clear c13
      have HC14 := Aside0.mk H
      clear H
      go_enter Try.func68, Try.ntmps68
      go_upto_region 9 with (first | ((with_reducible refine gate_callee (f := 108) rfl ?_); refine goesL_ (some 14) rfl rfl Try.func108 (by kernel_rfl) rfl #[.slice A0 l0.length c0, .int .i64 a1] rfl (by (try simp only [List.map_toArray, List.map_cons, List.map_nil]); first | done | rfl | (simp only [List.length_drop, List.length_take]; rfl)) ?_; (with_reducible refine (resolve_nth.calls k _ _ l0 a1 t101 _ ?side1 ?side2 A4.out).mono ?_); (case side1 => repeat (first | exact HR0.out | (with_reducible refine Kd.C_alloc ?_ _) | (with_reducible refine Kd.C_drewN ?_ _) | (with_reducible refine Kd.C_drew ?_))); (case side2 => exact HC0.out); rintro e w15 ⟨rfl, hb⟩; refine ⟨_, rfl, ?_⟩; have n0_ := Aside0.mk (below_step (by repeat (first | (with_reducible first | exact HB.out | apply below_alloc | apply pw_below_drewN | apply below_drew1) | exact HB.out)) hb); clear HB; have HB := n0_; clear n0_; (try clear hb); (try clear hb2); (try clear hk); (try clear hi)) | ((with_reducible refine gate_callee (f := 70) rfl ?_); refine goesL_ (some 17) rfl rfl Try.func70 (by kernel_rfl) rfl #[.slice A0 l0.length c0] rfl (by (try simp only [List.map_toArray, List.map_cons, List.map_nil]); first | done | rfl | (simp only [List.length_drop, List.length_take]; rfl)) ?_; (with_reducible refine (doc_Doc_Right.calls k _ _ l0 true _ ?side1 ?side2 A5.out).mono ?_); (case side1 => repeat (first | exact (Kd.C_below HR0.out HB.out) | (with_reducible refine Kd.C_alloc ?_ _) | (with_reducible refine Kd.C_drewN ?_ _) | (with_reducible refine Kd.C_drew ?_))); (case side2 => exact HC0.out); rintro e w16 ⟨rfl, hb⟩; refine ⟨_, rfl, ?_⟩; have n0_ := Aside0.mk (below_step (by repeat (first | (with_reducible first | exact HB.out | apply below_alloc | apply pw_below_drewN | apply below_drew1) | exact HB.out)) hb); clear HB; have HB := n0_; clear n0_; (try clear hb); (try clear hb2); (try clear hk); (try clear hi); have p103 : 0 ≤ (t101 : Int) := of_decide_eq_true (by first | (with_reducible assumption) | assumption); have q103 : t101 < (l0.length : Int) := of_decide_eq_true (by first | (with_reducible assumption) | assumption); obtain ⟨ad103, e103, hx103_0, hx103_1, hx103_2, hx103_3, hx103_4, hx103_5, hx103_6, hx103_7, hx103_8⟩ := at_T120 HR0.out t101 p103 q103; cases e103; replace hx103_0 := (HB.out.cell (World.block_lt_of_cell? w _ hx103_0)).trans hx103_0; replace hx103_1 := (HB.out.cell (World.block_lt_of_cell? w _ hx103_1)).trans hx103_1; replace hx103_2 := (HB.out.cell (World.block_lt_of_cell? w _ hx103_2)).trans hx103_2; replace hx103_3 := (HB.out.cell (World.block_lt_of_cell? w _ hx103_3)).trans hx103_3; replace hx103_4 := (HB.out.cell (World.block_lt_of_cell? w _ hx103_4)).trans hx103_4; replace hx103_5 := (HB.out.cell (World.block_lt_of_cell? w _ hx103_5)).trans hx103_5; replace hx103_6 := (HB.out.cell (World.block_lt_of_cell? w _ hx103_6)).trans hx103_6; replace hx103_7 := (HB.out.cell (World.block_lt_of_cell? w _ hx103_7)).trans hx103_7; replace hx103_8 := (HB.out.cell (World.block_lt_of_cell? w _ hx103_8)).trans hx103_8; replace p103 := eq_true p103; replace q103 := eq_true q103) | ((with_reducible refine gate_callee (f := 104) rfl ?_); refine goesL_ (some 28) rfl rfl Try.func104 (by kernel_rfl) rfl #[.agg #[.string ((rd_T120 l0 t101).f0.f0), .string ((rd_T120 l0 t101).f0.f1), .string ((rd_T120 l0 t101).f0.f2), .bool ((rd_T120 l0 t101).f1), .string ((rd_T120 l0 t101).f2), .string ((rd_T120 l0 t101).f3), .string ((rd_T120 l0 t101).f4), .string ((rd_T120 l0 t101).f5), .bool ((rd_T120 l0 t101).f6)], .int .i64 a2] rfl (by (try simp only [List.map_toArray, List.map_cons, List.map_nil]); first | done | rfl | (simp only [List.length_drop, List.length_take]; rfl)) ?_; (with_reducible refine (resolve_pick.calls k ((rd_T120 l0 t101).f0.f0) ((rd_T120 l0 t101).f0.f1) ((rd_T120 l0 t101).f0.f2) ((rd_T120 l0 t101).f1) ((rd_T120 l0 t101).f2) ((rd_T120 l0 t101).f3) ((rd_T120 l0 t101).f4) ((rd_T120 l0 t101).f5) ((rd_T120 l0 t101).f6) a2 t104 t105 _ A12.out).mono ?_); rintro e w17 ⟨rfl, hb⟩; refine ⟨_, rfl, ?_⟩; have n0_ := Aside0.mk (below_step (by repeat (first | (with_reducible first | exact HB.out | apply below_alloc | apply pw_below_drewN | apply below_drew1) | exact HB.out)) hb); clear HB; have HB := n0_; clear n0_; (try clear hb); (try clear hb2); (try clear hk); (try clear hi)))
      (try simp only [Act.put, List.setIfInBounds_toArray, List.set_cons_zero, List.set_cons_succ])
      go_cut [35] (fun v35 wc => ∃ (kq : Nat) (x35_13 : Bool), v35 = .bool x35_13 ∧ Aside0 (resolve_One.j0 kq l0 t101 t104 x35_13 = some (r1, r2)) ∧ Aside0 (kq ≤ k) ∧ Aside0 (Below w.heap.size w wc))
      case first =>
       have H := HC14.out
       clear HC14
       by_cases c18 : t104.toList = ([] : List UInt8)
       ·rw [if_pos c18] at H
        have c18b0 : (t104.toList == ([] : List UInt8)) = true := beq_iff_eq.mpr c18
        have c18b1 : (t104.toList != ([] : List UInt8)) = false := bne_eq_false_iff_eq.mpr c18
        clear c18
        (first | rw [c18b0] | (simp only [i64_w, i32_w]; rw [c18b0]) | skip)
        have H' := Aside0.mk H
        clear H
        go_wp2
        go_meet
        case rel => exact ⟨_, (false), (by first | rfl | (simp; done) | (simp [*]; done)), H', ⟨by first | omega | exact Nat.le_refl _⟩, ⟨by repeat (first | (with_reducible first | exact HB.out | apply below_alloc | apply pw_below_drewN | apply below_drew1) | exact HB.out)⟩⟩
       ·rw [if_neg c18] at H
        have c18b0 : (t104.toList == ([] : List UInt8)) = false := beq_eq_false_iff_ne.mpr c18
        have c18b1 : (t104.toList != ([] : List UInt8)) = true := bne_iff_ne.mpr c18
        (first | rw [c18b0] | (simp only [i64_w, i32_w]; rw [c18b0]) | skip)
        replace H := Option.bind_eq_some_iff.mp H
        obtain ⟨t106, A190, H⟩ := H
        replace H : (if t106 = true then (resolve_One.j0 k l0 t101 t104 false) else (resolve_One.j0 k l0 t101 t104 (decide (t101 < (wrap64 ((l0.length : Int) - 1)))))) = some (r1, r2) := H
        have A19 := Aside0.mk A190
        clear A190
        by_cases c20 : t106 = true
        ·subst c20
         have H1 : (resolve_One.j0 k l0 t101 t104 false) = some (r1, r2) := by rw [if_pos rfl] at H; exact H
         clear H
         have H := H1
         clear H1
         have H' := Aside0.mk H
         clear H
         go_wp2_with (first | (go_at_call 109; (with_reducible refine (strings_HasSuffix.calls t104 (⟨#[10]⟩ : ByteArray) true _ A19.out).mono ?_); rintro e w' ⟨rfl, ⟨nd, rfl⟩⟩))
         go_meet
         case rel => exact ⟨_, (false), (by first | rfl | (simp; done) | (simp [*]; done)), H', ⟨by first | omega | exact Nat.le_refl _⟩, ⟨by repeat (first | (with_reducible first | exact HB.out | apply below_alloc | apply pw_below_drewN | apply below_drew1) | exact HB.out)⟩⟩
        ·replace c20 := Bool.eq_false_iff.mpr c20
         subst c20
         have H1 : (resolve_One.j0 k l0 t101 t104 (decide (t101 < (wrap64 ((l0.length : Int) - 1))))) = some (r1, r2) := by rw [if_neg (show ¬ (false = true) by decide)] at H; exact H
         clear H
         have H := H1
         clear H1
         have H' := Aside0.mk H
         clear H
         go_wp2_with (first | (go_at_call 109; (with_reducible refine (strings_HasSuffix.calls t104 (⟨#[10]⟩ : ByteArray) false _ A19.out).mono ?_); rintro e w' ⟨rfl, ⟨nd, rfl⟩⟩))
         go_meet
         case rel => exact ⟨_, (decide (t101 < (wrap64 ((l0.length : Int) - 1)))), (by first | rfl | (simp; done) | (simp [*]; done)), H', ⟨by first | omega | exact Nat.le_refl _⟩, ⟨by repeat (first | (with_reducible first | exact HB.out | apply below_alloc | apply pw_below_drewN | apply below_drew1) | exact HB.out)⟩⟩
      case rest =>
       clear HC14
       try clear c1
       try clear p1
       try clear q1
       try clear hx1
       try clear c2
       try clear p2
       try clear c6
       try clear p6
       try clear c7
       try clear c7b0
       try clear c10
       try clear c10b0
       try clear p10
       try clear q10
       try clear hx10
       try clear c11
       try clear c11b0
       try clear c13
       try clear c13b0
       try clear c13b1
       try clear c18
       try clear c18b0
       try clear c18b1
       try clear c20
       try clear hx103_0
       try clear hx103_1
       try clear hx103_2
       try clear hx103_3
       try clear hx103_4
       try clear hx103_5
       try clear hx103_6
       try clear hx103_7
       try clear hx103_8
       try clear p103
       try clear q103
       obtain ⟨kq, x35_13, rfl, HA, HJ13, HB⟩ := hcut
       cases kq with
       | zero => exact absurd HA.out (by simp [resolve_One.j0])
       | succ kj13 =>
        have H := HA.out
        clear HA
        simp only [resolve_One.j0] at H
        by_cases c21 : x35_13 = true
        ·subst c21
         have H1 : (some (([] : List (S120)), 11)) = some (r1, r2) := by rw [if_pos rfl] at H; exact H
         clear H
         have H := H1
         clear H1
         simp only [Option.some.injEq, Prod.mk.injEq] at H
         obtain ⟨rfl, rfl⟩ := H
         go_wp2
         go_ret2
         exact ⟨_, by first | rfl | (simp [errW_none, errW_some] <;> rfl) | (simp [*, errW_none, errW_some] <;> rfl), by first | exact Kd.R_nil _ _ _ _ _ | exact Kd.N_nil _ _ _ _ _ | exact Kd.V_nil _ _ _ _ _ | exact Kd.Q_nil _ _ _ _ _ | exact Kd.S_nil _ _ _ _ _, by repeat (first | (with_reducible first | exact HB.out | apply below_alloc | apply pw_below_drewN | apply below_drew1) | exact HB.out)⟩
        ·replace c21 := Bool.eq_false_iff.mpr c21
         subst c21
         have H1 : ((doc_Part.f kj13 l0).bind fun t107 => (if 0 ≤ t101 then (if t101 < (t107.length : Int) then ((doc_Of.f kj13 (t107.set (t101 : Int).toNat (⟨(⟨(⟨#[]⟩ : ByteArray), (⟨#[]⟩ : ByteArray), (⟨#[]⟩ : ByteArray)⟩ : S116), false, t104, (⟨#[]⟩ : ByteArray), (⟨#[]⟩ : ByteArray), (⟨#[]⟩ : ByteArray), false⟩ : S120))).bind fun t111 => (some (t111, 0))) else (none)) else (none))) = some (r1, r2) := by rw [if_neg (show ¬ (false = true) by decide)] at H; exact H
         clear H
         have H := H1
         clear H1
         replace H := Option.bind_eq_some_iff.mp H
         obtain ⟨t107, A220, H⟩ := H
         replace H : (if 0 ≤ t101 then (if t101 < (t107.length : Int) then ((doc_Of.f kj13 (t107.set (t101 : Int).toNat (⟨(⟨(⟨#[]⟩ : ByteArray), (⟨#[]⟩ : ByteArray), (⟨#[]⟩ : ByteArray)⟩ : S116), false, t104, (⟨#[]⟩ : ByteArray), (⟨#[]⟩ : ByteArray), (⟨#[]⟩ : ByteArray), false⟩ : S120))).bind fun t111 => (some (t111, 0))) else (none)) else (none)) = some (r1, r2) := H
         have A22 := Aside0.mk A220
         clear A220
         by_cases c23 : 0 ≤ t101
         ·rw [if_pos c23] at H
          have c23b0 : decide (0 ≤ t101) = true := decide_eq_true c23
          clear c23
          by_cases c24 : t101 < (t107.length : Int)
          ·rw [if_pos c24] at H
           have c24b0 : decide (t101 < (t107.length : Int)) = true := decide_eq_true c24
           clear c24
           obtain ⟨y110, hy110⟩ : ∃ y_ : List (S120), y_ = (t107.set (t101 : Int).toNat (⟨(⟨(⟨#[]⟩ : ByteArray), (⟨#[]⟩ : ByteArray), (⟨#[]⟩ : ByteArray)⟩ : S116), false, t104, (⟨#[]⟩ : ByteArray), (⟨#[]⟩ : ByteArray), (⟨#[]⟩ : ByteArray), false⟩ : S120)) := ⟨_, rfl⟩
           replace H : ((doc_Of.f kj13 y110).bind fun t111 => (some (t111, 0))) = some (r1, r2) := by first | (rw [hy110]; with_reducible exact H) | (have H2_ := (Option.bind_some _ _).symm.trans H; rw [hy110]; with_reducible exact H2_) | (have H2_ := (Option.bind_some _ _).symm.trans H; with_reducible exact H2_) | with_reducible exact H | (rw [hy110]; exact H) | exact H
           have Ny110 := Aside0.mk hy110
           clear hy110
           replace H := Option.bind_eq_some_iff.mp H
           obtain ⟨t111, A260, H⟩ := H
           replace H : (some (t111, 0)) = some (r1, r2) := H
           have A26 := Aside0.mk A260
           clear A260
           simp only [Option.some.injEq, Prod.mk.injEq] at H
           obtain ⟨rfl, rfl⟩ := H
           go_wp2_with (first | ((with_reducible refine gate_callee (f := 110) rfl ?_); refine goesL_ (some 51) rfl rfl Try.func110 (by kernel_rfl) rfl #[.slice (some ad103) l0.length c0] rfl (by (try simp only [List.map_toArray, List.map_cons, List.map_nil]); first | done | rfl | (simp only [List.length_drop, List.length_take]; rfl)) ?_; (with_reducible refine (doc_Part.calls kj13 _ _ l0 t107 _ ?side1 ?side2 A22.out).mono ?_); (case side1 => repeat (first | exact (Kd.C_below HR0.out HB.out) | (with_reducible refine Kd.C_alloc ?_ _) | (with_reducible refine Kd.C_drewN ?_ _) | (with_reducible refine Kd.C_drew ?_))); (case side2 => exact HC0.out); rintro e w27 ⟨v108, rfl, ho0, hb⟩; refine ⟨_, rfl, ?_⟩; have n0_ := Aside0.mk (Kd.R_lower ho0 (below_size (by repeat (first | (with_reducible first | exact HB.out | apply below_alloc | apply pw_below_drewN | apply below_drew1) | exact HB.out)))); have n1_ := Aside0.mk (below_step (by repeat (first | (with_reducible first | exact HB.out | apply below_alloc | apply pw_below_drewN | apply below_drew1) | exact HB.out)) hb); clear HB; have HO109 := n0_; have HB := n1_; clear n0_ n1_; (try clear hb); (try clear hb2); (try clear hk); (try clear hi); (try clear ho0); have p25 : 0 ≤ (t101 : Int) := of_decide_eq_true (by first | (with_reducible assumption) | assumption); have q25 : (t101 : Int) < ((t107.length : Int) : Int) := of_decide_eq_true (by first | (with_reducible assumption) | assumption); obtain ⟨go25, co25, eo25, gb25, gl25, cl25, HG25⟩ := Kd.R_form HO109.out (by omega); (first | cases eo25 | (injection eo25 with ea_ en_ ec_; (first | subst ea_ | (injection ea_ with ea_; subst ea_)); subst ec_; clear en_)); have GB25 := Aside0.mk gb25; have GG25 := Aside0.mk HG25; clear gb25 gl25 HG25; obtain ⟨ce25, hcl25, hM25, hcc25, hfr25⟩ := Kd.R_elem HO109.out z120 (t101 : Int) p25 q25; obtain rfl := k120_openM hM25; have hx25_0 : w27.cell? ⟨go25, (t101 : Int).toNat * 9, none⟩ = some (.string ((rd_T120 t107 t101).f0.f0)) := hcc25 0 _ rfl; have hx25_1 : w27.cell? ⟨go25, (t101 : Int).toNat * 9 + 1, none⟩ = some (.string ((rd_T120 t107 t101).f0.f1)) := hcc25 1 _ rfl; have hx25_2 : w27.cell? ⟨go25, (t101 : Int).toNat * 9 + 2, none⟩ = some (.string ((rd_T120 t107 t101).f0.f2)) := hcc25 2 _ rfl; have hx25_3 : w27.cell? ⟨go25, (t101 : Int).toNat * 9 + 3, none⟩ = some (.bool ((rd_T120 t107 t101).f1)) := hcc25 3 _ rfl; have hx25_4 : w27.cell? ⟨go25, (t101 : Int).toNat * 9 + 4, none⟩ = some (.string ((rd_T120 t107 t101).f2)) := hcc25 4 _ rfl; have hx25_5 : w27.cell? ⟨go25, (t101 : Int).toNat * 9 + 5, none⟩ = some (.string ((rd_T120 t107 t101).f3)) := hcc25 5 _ rfl; have hx25_6 : w27.cell? ⟨go25, (t101 : Int).toNat * 9 + 6, none⟩ = some (.string ((rd_T120 t107 t101).f4)) := hcc25 6 _ rfl; have hx25_7 : w27.cell? ⟨go25, (t101 : Int).toNat * 9 + 7, none⟩ = some (.string ((rd_T120 t107 t101).f5)) := hcc25 7 _ rfl; have hx25_8 : w27.cell? ⟨go25, (t101 : Int).toNat * 9 + 8, none⟩ = some (.bool ((rd_T120 t107 t101).f6)) := hcc25 8 _ rfl; have hf25_0 : w27.frozen? ⟨go25, (t101 : Int).toNat * 9, none⟩ = false := hfr25 0; have hf25_1 : w27.frozen? ⟨go25, (t101 : Int).toNat * 9 + 1, none⟩ = false := hfr25 1; have hf25_2 : w27.frozen? ⟨go25, (t101 : Int).toNat * 9 + 2, none⟩ = false := hfr25 2; have hf25_3 : w27.frozen? ⟨go25, (t101 : Int).toNat * 9 + 3, none⟩ = false := hfr25 3; have hf25_4 : w27.frozen? ⟨go25, (t101 : Int).toNat * 9 + 4, none⟩ = false := hfr25 4; have hf25_5 : w27.frozen? ⟨go25, (t101 : Int).toNat * 9 + 5, none⟩ = false := hfr25 5; have hf25_6 : w27.frozen? ⟨go25, (t101 : Int).toNat * 9 + 6, none⟩ = false := hfr25 6; have hf25_7 : w27.frozen? ⟨go25, (t101 : Int).toNat * 9 + 7, none⟩ = false := hfr25 7; have hf25_8 : w27.frozen? ⟨go25, (t101 : Int).toNat * 9 + 8, none⟩ = false := hfr25 8; clear hcl25 hcc25 hfr25 hM25; replace p25 := eq_true p25; replace q25 := eq_true q25; have HX28 := Aside0.mk (show Kd.R k120 120 w27 w.heap.size (fun _ => True) (.slice (some ⟨go25, 0, none⟩) t107.length co25) t107 from (by (with_reducible repeat (first | apply Kd.R_alloc | apply Kd.R_drewN | apply Kd.R_drew)); exact HO109.out)); obtain ⟨ce28, hcl28, hM28, hcc28, hfr28⟩ := Kd.R_elem HX28.out z120 (t101 : Int) (of_decide_eq_true (by first | (with_reducible assumption) | assumption)) (by have h_ : (t101 : Int) < ((t107.length : Int) : Int) := of_decide_eq_true (by first | (with_reducible assumption) | assumption); first | exact h_ | (have e_ := (Kd.R_reads' HO109.out).1; omega) | simpa using h_); obtain rfl := k120_openM hM28; have HP28 := Kd.R_seg HX28.out (t101 : Int) (of_decide_eq_true (by first | (with_reducible assumption) | assumption)) (by have h_ : (t101 : Int) < ((t107.length : Int) : Int) := of_decide_eq_true (by first | (with_reducible assumption) | assumption); first | exact h_ | (have e_ := (Kd.R_reads' HO109.out).1; omega) | simpa using h_) (seg := [.string (⟨#[]⟩ : ByteArray), .string (⟨#[]⟩ : ByteArray), .string (⟨#[]⟩ : ByteArray), .bool false, .string t104, .string (⟨#[]⟩ : ByteArray), .string (⟨#[]⟩ : ByteArray), .string (⟨#[]⟩ : ByteArray), .bool false]) (j := 0) hcl28 hcc28 (show 9 ≤ 9 from by decide) (x' := (⟨(⟨(⟨#[]⟩ : ByteArray), (⟨#[]⟩ : ByteArray), (⟨#[]⟩ : ByteArray)⟩ : S116), false, t104, (⟨#[]⟩ : ByteArray), (⟨#[]⟩ : ByteArray), (⟨#[]⟩ : ByteArray), false⟩ : S120)) (k120_mkM _ _ _ (⟨(⟨(⟨#[]⟩ : ByteArray), (⟨#[]⟩ : ByteArray), (⟨#[]⟩ : ByteArray)⟩ : S116), false, t104, (⟨#[]⟩ : ByteArray), (⟨#[]⟩ : ByteArray), (⟨#[]⟩ : ByteArray), false⟩ : S120) ) (fun _ hk => hk); have hx28_0 := hcc28 0 _ rfl; (try simp only [show (k120).sz = 9 from rfl, Nat.mul_one, Nat.add_zero] at hx28_0); have hf28_0 := hfr28 0; (try simp only [show (k120).sz = 9 from rfl, Nat.mul_one, Nat.add_zero] at hf28_0); have hx28_1 := hcc28 1 _ rfl; (try simp only [show (k120).sz = 9 from rfl, Nat.mul_one, Nat.add_zero] at hx28_1); have hf28_1 := hfr28 1; (try simp only [show (k120).sz = 9 from rfl, Nat.mul_one, Nat.add_zero] at hf28_1); have hx28_2 := hcc28 2 _ rfl; (try simp only [show (k120).sz = 9 from rfl, Nat.mul_one, Nat.add_zero] at hx28_2); have hf28_2 := hfr28 2; (try simp only [show (k120).sz = 9 from rfl, Nat.mul_one, Nat.add_zero] at hf28_2); have hx28_3 := hcc28 3 _ rfl; (try simp only [show (k120).sz = 9 from rfl, Nat.mul_one, Nat.add_zero] at hx28_3); have hf28_3 := hfr28 3; (try simp only [show (k120).sz = 9 from rfl, Nat.mul_one, Nat.add_zero] at hf28_3); have hx28_4 := hcc28 4 _ rfl; (try simp only [show (k120).sz = 9 from rfl, Nat.mul_one, Nat.add_zero] at hx28_4); have hf28_4 := hfr28 4; (try simp only [show (k120).sz = 9 from rfl, Nat.mul_one, Nat.add_zero] at hf28_4); have hx28_5 := hcc28 5 _ rfl; (try simp only [show (k120).sz = 9 from rfl, Nat.mul_one, Nat.add_zero] at hx28_5); have hf28_5 := hfr28 5; (try simp only [show (k120).sz = 9 from rfl, Nat.mul_one, Nat.add_zero] at hf28_5); have hx28_6 := hcc28 6 _ rfl; (try simp only [show (k120).sz = 9 from rfl, Nat.mul_one, Nat.add_zero] at hx28_6); have hf28_6 := hfr28 6; (try simp only [show (k120).sz = 9 from rfl, Nat.mul_one, Nat.add_zero] at hf28_6); have hx28_7 := hcc28 7 _ rfl; (try simp only [show (k120).sz = 9 from rfl, Nat.mul_one, Nat.add_zero] at hx28_7); have hf28_7 := hfr28 7; (try simp only [show (k120).sz = 9 from rfl, Nat.mul_one, Nat.add_zero] at hf28_7); have hx28_8 := hcc28 8 _ rfl; (try simp only [show (k120).sz = 9 from rfl, Nat.mul_one, Nat.add_zero] at hx28_8); have hf28_8 := hfr28 8; (try simp only [show (k120).sz = 9 from rfl, Nat.mul_one, Nat.add_zero] at hf28_8); clear hcl28 hcc28 hfr28 hM28) | ((with_reducible refine gate_store (t := 120) (p := 56) rfl ?_); refine store_event (t := 120) (p := 56) (v := ?vo_w29) (w1 := (((((((((w27.setCell ⟨go25, (t101 : Int).toNat * 9, none⟩ (.string (⟨#[]⟩ : ByteArray))).setCell ⟨go25, (t101 : Int).toNat * 9 + 1, none⟩ (.string (⟨#[]⟩ : ByteArray))).setCell ⟨go25, (t101 : Int).toNat * 9 + 2, none⟩ (.string (⟨#[]⟩ : ByteArray))).setCell ⟨go25, (t101 : Int).toNat * 9 + 3, none⟩ (.bool false)).setCell ⟨go25, (t101 : Int).toNat * 9 + 4, none⟩ (.string t104)).setCell ⟨go25, (t101 : Int).toNat * 9 + 5, none⟩ (.string (⟨#[]⟩ : ByteArray))).setCell ⟨go25, (t101 : Int).toNat * 9 + 6, none⟩ (.string (⟨#[]⟩ : ByteArray))).setCell ⟨go25, (t101 : Int).toNat * 9 + 7, none⟩ (.string (⟨#[]⟩ : ByteArray))).setCell ⟨go25, (t101 : Int).toNat * 9 + 8, none⟩ (.bool false))) ?hg ?ho ?hn ?hr ?_; (case ho => rfl); (case hg => rfl); (case hn => rfl); (case hr => first | (go_simp; done) | (go_simp; rfl)); intro w29 hw; have hg : w27.grownBy w29 (some go25) := (by rw [hw]; exact HP28.2); have hp_ : Kd.R k120 120 w29 w.heap.size (fun _ => True) (.slice (some ⟨go25, 0, none⟩) t107.length co25) y110 := (by rw [hw, Ny110.out]; exact HP28.1); clear HP28; have n0_ := Aside0.mk (hp_); have n1_ := Aside0.mk ((by rw [hw]; exact below_set (below_set (below_set (below_set (below_set (below_set (below_set (below_set (below_set (HB.out) GB25.out) GB25.out) GB25.out) GB25.out) GB25.out) GB25.out) GB25.out) GB25.out) GB25.out : Below w.heap.size w w29)); clear HO109; clear HB; have HO109 := n0_; have HB := n1_; clear n0_ n1_; clear hg hw hp_) | ((with_reducible refine gate_callee (f := 111) rfl ?_); refine goesL_ (some 58) rfl rfl Try.func111 (by kernel_rfl) rfl #[.slice (some ⟨go25, 0, none⟩) y110.length co25] rfl (by (try simp only [List.map_toArray, List.map_cons, List.map_nil]); first | done | (rw [show y110.length = t107.length from (Kd.R_reads' HO109.out).1.symm] <;> rfl) | rfl | (simp only [List.length_drop, List.length_take]; rfl)) ?_; (with_reducible refine (doc_Of.calls kj13 _ _ y110 t111 _ ?side1 ?side2 A26.out).mono ?_); (case side1 => repeat (first | exact (Kd.R_reads' HO109.out).2.2 | (with_reducible refine Kd.C_alloc ?_ _) | (with_reducible refine Kd.C_drewN ?_ _) | (with_reducible refine Kd.C_drew ?_))); (case side2 => rw [show y110.length = t107.length from (Kd.R_reads' HO109.out).1.symm]; exact (Kd.R_reads' HO109.out).2.1); rintro e w30 ⟨v112, rfl, ho0, hb⟩; refine ⟨_, rfl, ?_⟩; have n0_ := Aside0.mk (Kd.R_elder' (by (with_reducible repeat (first | apply Kd.R_alloc | apply Kd.R_drewN | apply Kd.R_drew)); exact HO109.out) (Kd.R_base ho0) hb); have n1_ := Aside0.mk (Kd.R_lower (Kd.R_new' ho0 (Kd.R_lt (by (with_reducible repeat (first | apply Kd.R_alloc | apply Kd.R_drewN | apply Kd.R_drew)); exact HO109.out))) (below_size (by repeat (first | (with_reducible first | exact HB.out | apply below_alloc | apply pw_below_drewN | apply below_drew1) | exact HB.out)))); have n2_ := Aside0.mk (below_step (by repeat (first | (with_reducible first | exact HB.out | apply below_alloc | apply pw_below_drewN | apply below_drew1) | exact HB.out)) hb); clear HO109; clear HB; have HO109 := n0_; have HO113 := n1_; have HB := n2_; clear n0_ n1_ n2_; (try clear hb); (try clear hb2); (try clear hk); (try clear hi); (try clear ho0)))
           go_ret2
           exact ⟨_, by first | rfl | (simp [errW_none, errW_some] <;> rfl) | (simp [*, errW_none, errW_some] <;> rfl), by (with_reducible repeat (first | apply Kd.R_alloc | apply Kd.R_drewN | apply Kd.R_drew)); exact Kd.R_mono HO113.out (fun _ hk => trivial), by repeat (first | (with_reducible first | exact HB.out | apply below_alloc | apply pw_below_drewN | apply below_drew1) | exact HB.out)⟩
          ·rw [if_neg c24] at H
           exact absurd H (by simp)
         ·rw [if_neg c23] at H
          exact absurd H (by simp)
     ·rw [if_neg c13] at H
      have c13b0 : (t105 == 0) = false := beq_eq_false_iff_ne.mpr c13
      have c13b1 : (t105 != 0) = true := bne_iff_ne.mpr c13
      simp only [Option.some.injEq, Prod.mk.injEq] at H
      obtain ⟨rfl, rfl⟩ := H
      go_enter Try.func68, Try.ntmps68
      go_wp2_with (first | ((with_reducible refine gate_callee (f := 108) rfl ?_); refine goesL_ (some 14) rfl rfl Try.func108 (by kernel_rfl) rfl #[.slice A0 l0.length c0, .int .i64 a1] rfl (by (try simp only [List.map_toArray, List.map_cons, List.map_nil]); first | done | rfl | (simp only [List.length_drop, List.length_take]; rfl)) ?_; (with_reducible refine (resolve_nth.calls k _ _ l0 a1 t101 _ ?side1 ?side2 A4.out).mono ?_); (case side1 => repeat (first | exact HR0.out | (with_reducible refine Kd.C_alloc ?_ _) | (with_reducible refine Kd.C_drewN ?_ _) | (with_reducible refine Kd.C_drew ?_))); (case side2 => exact HC0.out); rintro e w31 ⟨rfl, hb⟩; refine ⟨_, rfl, ?_⟩; have n0_ := Aside0.mk (below_step (by repeat (first | (with_reducible first | exact HB.out | apply below_alloc | apply pw_below_drewN | apply below_drew1) | exact HB.out)) hb); clear HB; have HB := n0_; clear n0_; (try clear hb); (try clear hb2); (try clear hk); (try clear hi)) | ((with_reducible refine gate_callee (f := 70) rfl ?_); refine goesL_ (some 17) rfl rfl Try.func70 (by kernel_rfl) rfl #[.slice A0 l0.length c0] rfl (by (try simp only [List.map_toArray, List.map_cons, List.map_nil]); first | done | rfl | (simp only [List.length_drop, List.length_take]; rfl)) ?_; (with_reducible refine (doc_Doc_Right.calls k _ _ l0 true _ ?side1 ?side2 A5.out).mono ?_); (case side1 => repeat (first | exact (Kd.C_below HR0.out HB.out) | (with_reducible refine Kd.C_alloc ?_ _) | (with_reducible refine Kd.C_drewN ?_ _) | (with_reducible refine Kd.C_drew ?_))); (case side2 => exact HC0.out); rintro e w32 ⟨rfl, hb⟩; refine ⟨_, rfl, ?_⟩; have n0_ := Aside0.mk (below_step (by repeat (first | (with_reducible first | exact HB.out | apply below_alloc | apply pw_below_drewN | apply below_drew1) | exact HB.out)) hb); clear HB; have HB := n0_; clear n0_; (try clear hb); (try clear hb2); (try clear hk); (try clear hi); have p103 : 0 ≤ (t101 : Int) := of_decide_eq_true (by first | (with_reducible assumption) | assumption); have q103 : t101 < (l0.length : Int) := of_decide_eq_true (by first | (with_reducible assumption) | assumption); obtain ⟨ad103, e103, hx103_0, hx103_1, hx103_2, hx103_3, hx103_4, hx103_5, hx103_6, hx103_7, hx103_8⟩ := at_T120 HR0.out t101 p103 q103; cases e103; replace hx103_0 := (HB.out.cell (World.block_lt_of_cell? w _ hx103_0)).trans hx103_0; replace hx103_1 := (HB.out.cell (World.block_lt_of_cell? w _ hx103_1)).trans hx103_1; replace hx103_2 := (HB.out.cell (World.block_lt_of_cell? w _ hx103_2)).trans hx103_2; replace hx103_3 := (HB.out.cell (World.block_lt_of_cell? w _ hx103_3)).trans hx103_3; replace hx103_4 := (HB.out.cell (World.block_lt_of_cell? w _ hx103_4)).trans hx103_4; replace hx103_5 := (HB.out.cell (World.block_lt_of_cell? w _ hx103_5)).trans hx103_5; replace hx103_6 := (HB.out.cell (World.block_lt_of_cell? w _ hx103_6)).trans hx103_6; replace hx103_7 := (HB.out.cell (World.block_lt_of_cell? w _ hx103_7)).trans hx103_7; replace hx103_8 := (HB.out.cell (World.block_lt_of_cell? w _ hx103_8)).trans hx103_8; replace p103 := eq_true p103; replace q103 := eq_true q103) | ((with_reducible refine gate_callee (f := 104) rfl ?_); refine goesL_ (some 28) rfl rfl Try.func104 (by kernel_rfl) rfl #[.agg #[.string ((rd_T120 l0 t101).f0.f0), .string ((rd_T120 l0 t101).f0.f1), .string ((rd_T120 l0 t101).f0.f2), .bool ((rd_T120 l0 t101).f1), .string ((rd_T120 l0 t101).f2), .string ((rd_T120 l0 t101).f3), .string ((rd_T120 l0 t101).f4), .string ((rd_T120 l0 t101).f5), .bool ((rd_T120 l0 t101).f6)], .int .i64 a2] rfl (by (try simp only [List.map_toArray, List.map_cons, List.map_nil]); first | done | rfl | (simp only [List.length_drop, List.length_take]; rfl)) ?_; (with_reducible refine (resolve_pick.calls k ((rd_T120 l0 t101).f0.f0) ((rd_T120 l0 t101).f0.f1) ((rd_T120 l0 t101).f0.f2) ((rd_T120 l0 t101).f1) ((rd_T120 l0 t101).f2) ((rd_T120 l0 t101).f3) ((rd_T120 l0 t101).f4) ((rd_T120 l0 t101).f5) ((rd_T120 l0 t101).f6) a2 t104 t105 _ A12.out).mono ?_); rintro e w33 ⟨rfl, hb⟩; refine ⟨_, rfl, ?_⟩; have n0_ := Aside0.mk (below_step (by repeat (first | (with_reducible first | exact HB.out | apply below_alloc | apply pw_below_drewN | apply below_drew1) | exact HB.out)) hb); clear HB; have HB := n0_; clear n0_; (try clear hb); (try clear hb2); (try clear hk); (try clear hi)))
      go_ret2
      exact ⟨_, by first | rfl | (simp [errW_none, errW_some] <;> rfl) | (simp [*, errW_none, errW_some] <;> rfl), by first | exact Kd.R_nil _ _ _ _ _ | exact Kd.N_nil _ _ _ _ _ | exact Kd.V_nil _ _ _ _ _ | exact Kd.Q_nil _ _ _ _ _ | exact Kd.S_nil _ _ _ _ _, by repeat (first | (with_reducible first | exact HB.out | apply below_alloc | apply pw_below_drewN | apply below_drew1) | exact HB.out)⟩
    ·rw [if_neg c11] at H
     exact absurd H (by simp)
   ·rw [if_neg c10] at H
    exact absurd H (by simp)
 ·replace c6 := Bool.eq_false_iff.mpr c6
  subst c6
  have H1 : (some (([] : List (S120)), 11)) = some (r1, r2) := by rw [if_neg (show ¬ (false = true) by decide)] at H; exact H
  clear H
  have H := H1
  clear H1
  simp only [Option.some.injEq, Prod.mk.injEq] at H
  obtain ⟨rfl, rfl⟩ := H
  go_enter Try.func68, Try.ntmps68
  go_wp2_with (first | ((with_reducible refine gate_callee (f := 108) rfl ?_); refine goesL_ (some 14) rfl rfl Try.func108 (by kernel_rfl) rfl #[.slice A0 l0.length c0, .int .i64 a1] rfl (by (try simp only [List.map_toArray, List.map_cons, List.map_nil]); first | done | rfl | (simp only [List.length_drop, List.length_take]; rfl)) ?_; (with_reducible refine (resolve_nth.calls k _ _ l0 a1 t101 _ ?side1 ?side2 A4.out).mono ?_); (case side1 => repeat (first | exact HR0.out | (with_reducible refine Kd.C_alloc ?_ _) | (with_reducible refine Kd.C_drewN ?_ _) | (with_reducible refine Kd.C_drew ?_))); (case side2 => exact HC0.out); rintro e w34 ⟨rfl, hb⟩; refine ⟨_, rfl, ?_⟩; have n0_ := Aside0.mk (below_step (by repeat (first | (with_reducible first | exact HB.out | apply below_alloc | apply pw_below_drewN | apply below_drew1) | exact HB.out)) hb); clear HB; have HB := n0_; clear n0_; (try clear hb); (try clear hb2); (try clear hk); (try clear hi)) | ((with_reducible refine gate_callee (f := 70) rfl ?_); refine goesL_ (some 17) rfl rfl Try.func70 (by kernel_rfl) rfl #[.slice A0 l0.length c0] rfl (by (try simp only [List.map_toArray, List.map_cons, List.map_nil]); first | done | rfl | (simp only [List.length_drop, List.length_take]; rfl)) ?_; (with_reducible refine (doc_Doc_Right.calls k _ _ l0 false _ ?side1 ?side2 A5.out).mono ?_); (case side1 => repeat (first | exact (Kd.C_below HR0.out HB.out) | (with_reducible refine Kd.C_alloc ?_ _) | (with_reducible refine Kd.C_drewN ?_ _) | (with_reducible refine Kd.C_drew ?_))); (case side2 => exact HC0.out); rintro e w35 ⟨rfl, hb⟩; refine ⟨_, rfl, ?_⟩; have n0_ := Aside0.mk (below_step (by repeat (first | (with_reducible first | exact HB.out | apply below_alloc | apply pw_below_drewN | apply below_drew1) | exact HB.out)) hb); clear HB; have HB := n0_; clear n0_; (try clear hb); (try clear hb2); (try clear hk); (try clear hi)))
  go_ret2
  exact ⟨_, by first | rfl | (simp [errW_none, errW_some] <;> rfl) | (simp [*, errW_none, errW_some] <;> rfl), by first | exact Kd.R_nil _ _ _ _ _ | exact Kd.N_nil _ _ _ _ _ | exact Kd.V_nil _ _ _ _ _ | exact Kd.Q_nil _ _ _ _ _ | exact Kd.S_nil _ _ _ _ _, by repeat (first | (with_reducible first | exact HB.out | apply below_alloc | apply pw_below_drewN | apply below_drew1) | exact HB.out)⟩
end Go.Proofs.Ytadafplbgophfaa.PA
end
section
namespace Go.Proofs
open Go.Shelf Go.RowKit
theorem Try.lays166 : Go.Proofs.Lays.n166 Try.prog Try.lays156_ren := { Try.lays156 with }
theorem Try.Builder_WriteString_k (B b : Nat) (bs : List Value) (s : ByteArray) (w : World) (h : Lib.IsBuilderF 162 5 B b bs w) (hlen : bs.length + s.size ≤ 140737488355328) (hBw : B ≤ w.heap.size) :
    Calls Try.prog 103 #[.pointer (some ⟨b, 0, none⟩), .string s] w fun e w' => e = .returned (.tuple #[.int .i64 s.size, .nilIface]) ∧ (Lib.BuilderAtF 162 5 B b (.pointer (some ⟨b, 0, none⟩)) (bs ++ Lib.strCells s) w' ∧ Below B w w' ∧ Lib.OthersKept 5 (some b) w w') := Any.Builder_WriteString_k Try.lays166 Try.Builder_Extra_156 B b bs s w h hlen hBw
theorem isBuilderF_below {T e : TypeId} {B b : Nat} {bs : List Value} {W W' : World} (h : Lib.IsBuilderF T e B b bs W) (hb : Below W.heap.size W W') : Lib.IsBuilderF T e B b bs W' := by
  have one : ∀ {p : Value}, Lib.BuilderAtF T e B b p bs W → Lib.BuilderAtF T e B b p bs W' := by
    intro p h
    have hlt := h.lt
    obtain ⟨hB, v, hv, hown, hne⟩ := h
    exact ⟨hB, v, (hb.block b hlt).trans hv, hown.kept (row := none) ⟨hb.os, hb.tape, hb.output, hb.size, fun k hk _ => hb.block k hk⟩ (Classical.em _), hne⟩
  exact h.elim (fun x => .inl (one x)) (fun x => .inr (one x))
theorem Try.Builder_String_kb (B b : Nat) (l : List UInt8) (w : World) (h : Lib.IsBuilderF 162 5 B b (Lib.byteCells l) w) (hBw : B ≤ w.heap.size) :
    Calls Try.prog 105 #[.pointer (some ⟨b, 0, none⟩)] w fun e w' => e = .returned (.string ⟨l.toArray⟩) ∧ Below B w w' := by
  refine (Try.Builder_String_any_k B b l w h hBw).mono ?_
  rintro e w' ⟨rfl, _, hb, _⟩
  exact ⟨rfl, hb⟩
theorem bytes_app (l : List UInt8) (s : ByteArray) : Lib.byteCells l ++ Lib.strCells s = Lib.byteCells (l ++ s.data.toList) := by
  simp [Lib.byteCells, Lib.strCells]
end Go.Proofs
end
section
namespace Go.Proofs.Ytadafplbgophfaa.PA
set_option linter.unusedSimpArgs false
set_option linter.unusedVariables false
open Go.RowKit Go.Proofs.YtadafplbgophfaaW.PrintWords Go.Proofs.YtadafplbgophfaaW.PrintLast Go.Proofs.YtadafplbgophfaaW.PrintMore
def eachGo : List S120 → List Int → List UInt8 → Option (ByteArray × Int)
  | [], _, acc => some (⟨acc.toArray⟩, 0)
  | p :: d, sides, acc =>
    if acc.length + p.f2.size ≤ 140737488355328 then
      (if p.f1 = false then eachGo d sides (acc ++ p.f2.data.toList) else match sides with
        | [] => none
        | s :: rest => if (pickF p s).2 = 0 then (if (acc ++ p.f2.data.toList).length + (pickF p s).1.size ≤ 140737488355328 then eachGo d rest ((acc ++ p.f2.data.toList) ++ (pickF p s).1.data.toList) else none) else some (⟨#[]⟩, (pickF p s).2))
    else none
def resolve_Each.f (k : Nat) (l0 : List S120) (l1 : List Int) : Option (ByteArray × Int) :=
  (doc_Doc_Right.f k l0).bind fun r => if r = true then ((doc_Doc_Conflicts.f k l0).bind fun n => if (l1.length : Int) = n then eachGo l0 l1 [] else some (⟨#[]⟩, 1)) else some (⟨#[]⟩, 11)
theorem resolve_Each.mono : ∀ a0 a1 k, LeO (resolve_Each.f k a0 a1) (resolve_Each.f (k + 1) a0 a1) := by
  intro a0 a1 k
  unfold resolve_Each.f
  repeat' first
    | exact doc_Doc_Right.mono _ _
    | exact doc_Doc_Conflicts.mono _ _
    | exact LeO.refl _
    | refine LeO.ite ?_ ?_
    | refine LeO.bind ?_ (fun _ => ?_)
theorem hold10_64 {W w' : World} {a0 a1 a2 a3 a4 a5 a6 a7 a8 a9 : Addr} {v0 v1 v2 v3 v4 v5 v6 v7 v8 v9 : Value} (hb : Below W.heap.size W w') (h : W.cell? a0 = some v0 ∧ W.cell? a1 = some v1 ∧ W.cell? a2 = some v2 ∧ W.cell? a3 = some v3 ∧ W.cell? a4 = some v4 ∧ W.cell? a5 = some v5 ∧ W.cell? a6 = some v6 ∧ W.cell? a7 = some v7 ∧ W.cell? a8 = some v8 ∧ W.cell? a9 = some v9) : w'.cell? a0 = some v0 ∧ w'.cell? a1 = some v1 ∧ w'.cell? a2 = some v2 ∧ w'.cell? a3 = some v3 ∧ w'.cell? a4 = some v4 ∧ w'.cell? a5 = some v5 ∧ w'.cell? a6 = some v6 ∧ w'.cell? a7 = some v7 ∧ w'.cell? a8 = some v8 ∧ w'.cell? a9 = some v9 := ⟨pw_cell_below hb h.1, pw_cell_below hb h.2.1, pw_cell_below hb h.2.2.1, pw_cell_below hb h.2.2.2.1, pw_cell_below hb h.2.2.2.2.1, pw_cell_below hb h.2.2.2.2.2.1, pw_cell_below hb h.2.2.2.2.2.2.1, pw_cell_below hb h.2.2.2.2.2.2.2.1, pw_cell_below hb h.2.2.2.2.2.2.2.2.1, pw_cell_below hb h.2.2.2.2.2.2.2.2.2⟩
theorem kept_row {b p : Nat} {cs : Array Value} {t : TypeId} {w w' : World} (h : Lib.OthersKept 5 (some b) w w') (hp : w.heap[p]? = some (.cells cs t (0, 0))) (hne : p ≠ b) (ht : t ≠ 5) : w'.heap[p]? = some (.cells cs t (0, 0)) :=
  h p _ hp (fun e => hne (Option.some.inj e)) (fun c fz e => ht (by injection e))
theorem fill9_64 {w : World} {s : Nat} {z0 z1 z2 z3 z4 z5 z6 z7 z8 : Value} (h : w.heap[s]? = some (.cells #[z0, z1, z2, z3, z4, z5, z6, z7, z8] 120 (0, 0))) (v0 v1 v2 v3 v4 v5 v6 v7 v8 : Value) :
    (((((((((w.setCell ⟨s, 0, none⟩ v0).setCell ⟨s, 1, none⟩ v1).setCell ⟨s, 2, none⟩ v2).setCell ⟨s, 3, none⟩ v3).setCell ⟨s, 4, none⟩ v4).setCell ⟨s, 5, none⟩ v5).setCell ⟨s, 6, none⟩ v6).setCell ⟨s, 7, none⟩ v7).setCell ⟨s, 8, none⟩ v8).heap[s]? = some (.cells #[v0, v1, v2, v3, v4, v5, v6, v7, v8] 120 (0, 0)) := by
  have h0 : (w.setCell ⟨s, 0, none⟩ v0).heap[s]? = some (.cells #[v0, z1, z2, z3, z4, z5, z6, z7, z8] 120 (0, 0)) := blk_put h 0 v0 rfl
  have h1 : ((w.setCell ⟨s, 0, none⟩ v0).setCell ⟨s, 1, none⟩ v1).heap[s]? = some (.cells #[v0, v1, z2, z3, z4, z5, z6, z7, z8] 120 (0, 0)) := blk_put h0 1 v1 rfl
  have h2 : (((w.setCell ⟨s, 0, none⟩ v0).setCell ⟨s, 1, none⟩ v1).setCell ⟨s, 2, none⟩ v2).heap[s]? = some (.cells #[v0, v1, v2, z3, z4, z5, z6, z7, z8] 120 (0, 0)) := blk_put h1 2 v2 rfl
  have h3 : ((((w.setCell ⟨s, 0, none⟩ v0).setCell ⟨s, 1, none⟩ v1).setCell ⟨s, 2, none⟩ v2).setCell ⟨s, 3, none⟩ v3).heap[s]? = some (.cells #[v0, v1, v2, v3, z4, z5, z6, z7, z8] 120 (0, 0)) := blk_put h2 3 v3 rfl
  have h4 : (((((w.setCell ⟨s, 0, none⟩ v0).setCell ⟨s, 1, none⟩ v1).setCell ⟨s, 2, none⟩ v2).setCell ⟨s, 3, none⟩ v3).setCell ⟨s, 4, none⟩ v4).heap[s]? = some (.cells #[v0, v1, v2, v3, v4, z5, z6, z7, z8] 120 (0, 0)) := blk_put h3 4 v4 rfl
  have h5 : ((((((w.setCell ⟨s, 0, none⟩ v0).setCell ⟨s, 1, none⟩ v1).setCell ⟨s, 2, none⟩ v2).setCell ⟨s, 3, none⟩ v3).setCell ⟨s, 4, none⟩ v4).setCell ⟨s, 5, none⟩ v5).heap[s]? = some (.cells #[v0, v1, v2, v3, v4, v5, z6, z7, z8] 120 (0, 0)) := blk_put h4 5 v5 rfl
  have h6 : (((((((w.setCell ⟨s, 0, none⟩ v0).setCell ⟨s, 1, none⟩ v1).setCell ⟨s, 2, none⟩ v2).setCell ⟨s, 3, none⟩ v3).setCell ⟨s, 4, none⟩ v4).setCell ⟨s, 5, none⟩ v5).setCell ⟨s, 6, none⟩ v6).heap[s]? = some (.cells #[v0, v1, v2, v3, v4, v5, v6, z7, z8] 120 (0, 0)) := blk_put h5 6 v6 rfl
  have h7 : ((((((((w.setCell ⟨s, 0, none⟩ v0).setCell ⟨s, 1, none⟩ v1).setCell ⟨s, 2, none⟩ v2).setCell ⟨s, 3, none⟩ v3).setCell ⟨s, 4, none⟩ v4).setCell ⟨s, 5, none⟩ v5).setCell ⟨s, 6, none⟩ v6).setCell ⟨s, 7, none⟩ v7).heap[s]? = some (.cells #[v0, v1, v2, v3, v4, v5, v6, v7, z8] 120 (0, 0)) := blk_put h6 7 v7 rfl
  have h8 : (((((((((w.setCell ⟨s, 0, none⟩ v0).setCell ⟨s, 1, none⟩ v1).setCell ⟨s, 2, none⟩ v2).setCell ⟨s, 3, none⟩ v3).setCell ⟨s, 4, none⟩ v4).setCell ⟨s, 5, none⟩ v5).setCell ⟨s, 6, none⟩ v6).setCell ⟨s, 7, none⟩ v7).setCell ⟨s, 8, none⟩ v8).heap[s]? = some (.cells #[v0, v1, v2, v3, v4, v5, v6, v7, v8] 120 (0, 0)) := blk_put h7 8 v8 rfl
  exact h8
def resolve_Each.T12 : Bool × List (List Nat × List Nat) := (true, [([], []), ([], []), ([], []), ([1, 2], [1, 2]), ([3], [3]), ([0, 4], [0, 4]), ([5], [5]), ([6], [6]), ([6], [6]), ([7, 5, 0, 1, 2, 3, 4, 5, 6, 7], [7]), ([8, 9, 0, 1, 2, 3, 4, 5, 6, 7, 8, 9], [8])])
def resolve_Each.B12 : List Nat := [0, 0, 0, 6, 14, 31, 63, 127, 127, 255, 1023]
theorem resolve_Each.tab12 : rtab .any (opsOf Try.f64 12) = resolve_Each.T12 := by kernel_rfl
theorem resolve_Each.bits12 : waitsOk resolve_Each.T12.2 resolve_Each.B12 = true := by kernel_rfl
set_option maxHeartbeats 8000000 in
set_option maxRecDepth 100000 in
theorem resolve_Each.calls (k : Nat) (A0 : Option Addr) (c0 : Nat) (l0 : List S120) (A1 : Option Addr) (c1 : Nat) (l1 : List Int) (r1 : ByteArray) (r2 : Int) (w : World) (hr0 : Kd.C k120 w A0 l0.length l0) (hc0 : l0.length ≤ c0) (hr1 : Kd.C (Kd.int .i64) w A1 l1.length l1) (hc1 : l1.length ≤ c1) (h : resolve_Each.f k l0 l1 = some (r1, r2)) :
    Calls Try.prog 64 #[.slice A0 l0.length c0, .slice A1 l1.length c1] w fun e w' => e = .returned (.tuple #[.string r1, .int .i64 r2]) ∧ Below w.heap.size w w' := by
  unfold resolve_Each.f at h
  replace h := Option.bind_eq_some_iff.1 h
  obtain ⟨r, hr, h⟩ := h
  have HR0 := Aside0.mk hr0
  have HC0 := Aside0.mk hc0
  have HR1 := Aside0.mk hr1
  have HC1 := Aside0.mk hc1
  have FR := Aside0.mk hr
  have HN : Aside0 (l0.length ≤ 9223372036854775807) := ⟨hr0.2.1⟩
  have HM : Aside0 (l1.length ≤ 9223372036854775807) := ⟨hr1.2.1⟩
  clear hr0 hc0 hr1 hc1 hr
  have hu120 := Try.underlying120
  by_cases hrt : r = true
  rotate_left
  · rw [if_neg hrt] at h
    simp only [Option.some.injEq, Prod.mk.injEq] at h
    obtain ⟨rfl, rfl⟩ := h
    obtain rfl : r = false := by simpa using hrt
    clear hrt
    go_enter Try.func64, Try.ntmps64
    go_wp2_with fail
    refine (doc_Doc_Right.calls k A0 c0 l0 false w HR0.out HC0.out FR.out).mono ?_
    rintro e w1 ⟨rfl, hb⟩
    have HB := Aside0.mk hb
    clear hb
    go_wp2_with fail
    go_ret2
    exact ⟨rfl, HB.out⟩
  subst hrt
  rw [if_pos rfl] at h
  replace h := Option.bind_eq_some_iff.1 h
  obtain ⟨n, hn, h⟩ := h
  have FN := Aside0.mk hn
  clear hn
  by_cases hln : (l1.length : Int) = n
  rotate_left
  · rw [if_neg hln] at h
    simp only [Option.some.injEq, Prod.mk.injEq] at h
    obtain ⟨rfl, rfl⟩ := h
    have q1 : ((l1.length : Int) == n) = false := beq_eq_false_iff_ne.mpr hln
    have q2 : ((l1.length : Int) != n) = true := bne_iff_ne.mpr hln
    have q3 : decide ((l1.length : Int) = n) = false := decide_eq_false hln
    clear hln
    go_enter Try.func64, Try.ntmps64
    go_wp2_with fail
    refine (doc_Doc_Right.calls k A0 c0 l0 true w HR0.out HC0.out FR.out).mono ?_
    rintro e w1 ⟨rfl, hb⟩
    have HB := Aside0.mk hb
    clear hb
    go_wp2_with fail
    refine (doc_Doc_Conflicts.calls k A0 c0 l0 n w1 (Kd.C_below HR0.out HB.out) HC0.out FN.out).mono ?_
    rintro e w2 ⟨rfl, hb⟩
    replace HB := Aside0.mk (below_step HB.out hb)
    clear hb
    go_wp2_with fail
    go_ret2
    exact ⟨rfl, HB.out⟩
  rw [if_pos hln] at h
  have q1 : ((l1.length : Int) == n) = true := beq_iff_eq.mpr hln
  have q2 : ((l1.length : Int) != n) = false := bne_eq_false_iff_eq.mpr hln
  have q3 : decide ((l1.length : Int) = n) = true := decide_eq_true hln
  have HE := Aside0.mk h
  clear hln h
  go_enter Try.func64, Try.ntmps64
  go_wp2_with fail
  refine (doc_Doc_Right.calls k A0 c0 l0 true w HR0.out HC0.out FR.out).mono ?_
  rintro e w1 ⟨rfl, hb⟩
  have HB := Aside0.mk hb
  clear hb
  go_wp2_with fail
  refine (doc_Doc_Conflicts.calls k A0 c0 l0 n w1 (Kd.C_below HR0.out HB.out) HC0.out FN.out).mono ?_
  rintro e w2 ⟨rfl, hb⟩
  replace HB := Aside0.mk (below_step HB.out hb)
  clear hb
  go_wp2_with (first | ((with_reducible refine gate_dst (N := 6) rfl ?_); refine box_event ?hg (N := 6) ?hd (cs := #[.pointer none, .slice none 0 0]) (t := 162) ?hr ?_; (case hd => rfl); (case hg => rfl); (case hr => first | (go_simp; done) | (go_simp; rfl)); intro b hg w3 hbox hb; have GB := Aside0.mk ((by rw [hg]; exact below_size HB.out) : w.heap.size ≤ b); have BB := Aside0.mk hbox; replace HB := Aside0.mk (below_step HB.out hb); clear hg hbox hb))
  have HBU : Aside0 (Lib.IsBuilderF 162 5 w.heap.size b (Lib.byteCells []) w3) := ⟨Lib.IsBuilderF.of (.inl ⟨GB.out, _, BB.out, ⟨rfl, .inl ⟨rfl, rfl⟩⟩, by simp [Value.ownBlock]⟩)⟩
  clear q1 q2 q3
  go_loopw [7, 24] (fun v7 v24 wr => ∃ (i n : Nat) (acc : List UInt8), v7 = .int .i64 (n : Int) ∧ v24 = .int .i64 (i : Int) ∧ Aside0 (i ≤ l0.length ∧ n ≤ l1.length) ∧ Aside0 (Lib.IsBuilderF 162 5 w.heap.size b (Lib.byteCells acc) wr) ∧ Aside0 (Below w.heap.size w wr) ∧ Aside0 (b < wr.heap.size) ∧ Aside0 (eachGo (l0.drop i) (l1.drop n) acc = some (r1, r2))) (fun _ v24 _ => l0.length - (intOf v24).toNat)
  case atStart => exact ⟨0, 0, [], rfl, rfl, ⟨Nat.zero_le _, Nat.zero_le _⟩, HBU, HB, ⟨blk_lt BB.out⟩, HE⟩
  case round =>
    obtain ⟨i, n', acc, rfl, rfl, HI, HU, HW, HLT, HG⟩ := hrel
    by_cases hlt : i < l0.length
    rotate_left
    · have hcut : decide ((i : Int) < (l0.length : Int)) = false := decide_eq_false (by omega)
      have hcutn : decide (i < l0.length) = false := decide_eq_false hlt
      have hg := HG.out
      rw [List.drop_of_length_le (by omega)] at hg
      unfold eachGo at hg
      simp only [Option.some.injEq, Prod.mk.injEq] at hg
      have HGG := Aside0.mk hg
      clear hg
      go_wp2_with fail
      refine (Try.Builder_String_kb w.heap.size b acc wr HU.out HW.out.size).mono ?_
      rintro e w9 ⟨rfl, hb⟩
      have HB9 := Aside0.mk (HW.out.trans hb)
      clear hb
      go_wp2_with fail
      go_ret2
      rw [← HGG.out.1, ← HGG.out.2]
      exact ⟨rfl, HB9.out⟩
    · have hcut : decide ((i : Int) < (l0.length : Int)) = true := decide_eq_true (by omega)
      have hcutn : decide (i < l0.length) = true := decide_eq_true hlt
      have HWI : Aside0 (wrap64 ((i : Int) + 1) = ((i + 1 : Nat) : Int)) := ⟨by have := HN.out; unfold wrap64; omega⟩
      have p0 : (0 : Int) ≤ (i : Int) := by omega
      have p1 : (i : Int) < (l0.length : Int) := by omega
      have HLI := Aside0.mk hlt
      obtain ⟨ad, ea, hx0, hx1, hx2, hx3, hx4, hx5, hx6, hx7, hx8⟩ := at_T120 (Kd.C_below HR0.out HW.out) (i : Int) p0 p1
      cases ea
      have hrd : rd_T120 l0 (i : Int) = l0[i] := by simp [rd_T120, List.getD_eq_getElem?_getD, hlt]
      rw [hrd, Int.toNat_natCast] at hx0 hx1 hx2 hx3 hx4 hx5 hx6 hx7 hx8
      have hg := HG.out
      rw [List.drop_eq_getElem_cons hlt] at hg
      generalize l0[i] = p at hx0 hx1 hx2 hx3 hx4 hx5 hx6 hx7 hx8 hg
      unfold eachGo at hg
      split at hg
      case isFalse => cases hg
      rename_i hsz
      have HSZ := Aside0.mk hsz
      have HGG := Aside0.mk hg
      have p0t := eq_true p0
      have p1t := eq_true p1
      have p2t := eq_true hlt
      clear hg hsz hrd p0 p1 hlt HG
      go_wp2_with (first | ((with_reducible refine gate_dst (N := 9) rfl ?_); refine box_event ?hg (N := 9) ?hd (cs := #[.string ⟨#[]⟩, .string ⟨#[]⟩, .string ⟨#[]⟩, .bool false, .string ⟨#[]⟩, .string ⟨#[]⟩, .string ⟨#[]⟩, .string ⟨#[]⟩, .bool false]) (t := 120) ?hr ?_; (case hd => rfl); (case hg => rfl); (case hr => first | (go_simp; done) | (go_simp; rfl)); intro gp hg w4 hbox hb; have BP := Aside0.mk hbox; have HB4 := Aside0.mk hb; have GP := Aside0.mk (Nat.le_of_eq hg.symm : wr.heap.size ≤ gp); clear hg; have y0 := (blk_cell hbox 0).trans (show _ = some (Value.string ⟨#[]⟩) from rfl); have x0 := blk_frozen hbox 0; have y1 := (blk_cell hbox 1).trans (show _ = some (Value.string ⟨#[]⟩) from rfl); have x1 := blk_frozen hbox 1; have y2 := (blk_cell hbox 2).trans (show _ = some (Value.string ⟨#[]⟩) from rfl); have x2 := blk_frozen hbox 2; have y3 := (blk_cell hbox 3).trans (show _ = some (Value.bool false) from rfl); have x3 := blk_frozen hbox 3; have y4 := (blk_cell hbox 4).trans (show _ = some (Value.string ⟨#[]⟩) from rfl); have x4 := blk_frozen hbox 4; have y5 := (blk_cell hbox 5).trans (show _ = some (Value.string ⟨#[]⟩) from rfl); have x5 := blk_frozen hbox 5; have y6 := (blk_cell hbox 6).trans (show _ = some (Value.string ⟨#[]⟩) from rfl); have x6 := blk_frozen hbox 6; have y7 := (blk_cell hbox 7).trans (show _ = some (Value.string ⟨#[]⟩) from rfl); have x7 := blk_frozen hbox 7; have y8 := (blk_cell hbox 8).trans (show _ = some (Value.bool false) from rfl); have x8 := blk_frozen hbox 8; clear hbox hb))
      have HB5 : Aside0 (Below wr.heap.size wr (((((((((w4.setCell ⟨gp, 0, none⟩ (.string p.f0.f0)).setCell ⟨gp, 1, none⟩ (.string p.f0.f1)).setCell ⟨gp, 2, none⟩ (.string p.f0.f2)).setCell ⟨gp, 3, none⟩ (.bool p.f1)).setCell ⟨gp, 4, none⟩ (.string p.f2)).setCell ⟨gp, 5, none⟩ (.string p.f3)).setCell ⟨gp, 6, none⟩ (.string p.f4)).setCell ⟨gp, 7, none⟩ (.string p.f5)).setCell ⟨gp, 8, none⟩ (.bool p.f6))) := ⟨(below_set (j := 8) (v := .bool p.f6) (below_set (j := 7) (v := .string p.f5) (below_set (j := 6) (v := .string p.f4) (below_set (j := 5) (v := .string p.f3) (below_set (j := 4) (v := .string p.f2) (below_set (j := 3) (v := .bool p.f1) (below_set (j := 2) (v := .string p.f0.f2) (below_set (j := 1) (v := .string p.f0.f1) (below_set (j := 0) (v := .string p.f0.f0) HB4.out GP.out) GP.out) GP.out) GP.out) GP.out) GP.out) GP.out) GP.out) GP.out)⟩
      have BP5 := Aside0.mk (fill9_64 BP.out (.string p.f0.f0) (.string p.f0.f1) (.string p.f0.f2) (.bool p.f1) (.string p.f2) (.string p.f3) (.string p.f4) (.string p.f5) (.bool p.f6))
      clear y0 x0 hx0 y1 x1 hx1 y2 x2 hx2 y3 x3 hx3 y4 x4 hx4 y5 x5 hx5 y6 x6 hx6 y7 x7 hx7 y8 x8 hx8 BP HB4
      generalize (((((((((w4.setCell ⟨gp, 0, none⟩ (.string p.f0.f0)).setCell ⟨gp, 1, none⟩ (.string p.f0.f1)).setCell ⟨gp, 2, none⟩ (.string p.f0.f2)).setCell ⟨gp, 3, none⟩ (.bool p.f1)).setCell ⟨gp, 4, none⟩ (.string p.f2)).setCell ⟨gp, 5, none⟩ (.string p.f3)).setCell ⟨gp, 6, none⟩ (.string p.f4)).setCell ⟨gp, 7, none⟩ (.string p.f5)).setCell ⟨gp, 8, none⟩ (.bool p.f6)) = w5 at HB5 BP5 ⊢
      have HU5 := Aside0.mk (isBuilderF_below HU.out HB5.out)
      have HW5 := Aside0.mk (below_step HW.out HB5.out)
      have NE := Aside0.mk ((fun e => by have := HLT.out; have := GP.out; omega) : gp ≠ b)
      clear HU HW
      refine (Try.Builder_WriteString_k w.heap.size b _ p.f2 w5 HU5.out (by rw [Lib.byteCells_length]; exact HSZ.out) HW5.out.size).mono ?_
      rintro e w6 ⟨rfl, hbu, hb, hk⟩
      rw [bytes_app] at hbu
      have HU6 := Aside0.mk (Or.inr hbu : Lib.IsBuilderF 162 5 w.heap.size b _ w6)
      have HW6 := Aside0.mk (HW5.out.trans hb)
      have BP6 := Aside0.mk (kept_row hk BP5.out NE.out (by decide))
      have HL6 : Aside0 (b < w6.heap.size) := ⟨by have := Lib.BuilderAtF.lt hbu; exact this⟩
      clear hbu hb hk HU5 HW5 BP5 HLT
      have hh := (blk_cell BP6.out 3).trans (show _ = some (Value.bool p.f1) from rfl)
      by_cases hf : p.f1 = false
      · rw [hf] at hh
        have hg := HGG.out
        rw [if_pos hf] at hg
        have HG2 := Aside0.mk hg
        clear hg HGG
        go_wp2_with fail
        go_roundw
        case rel => exact ⟨i + 1, n', _, rfl, by rw [HWI.out], ⟨HLI.out, HI.out.2⟩, HU6, HW6, HL6, HG2⟩
        case measure => rw [HWI.out]; have := HLI.out; simp only [intOf, Int.toNat_natCast]; omega
      have hft : p.f1 = true := by simpa using hf
      rw [hft] at hh
      have hg := HGG.out
      rw [if_neg hf] at hg
      clear hf HGG
      by_cases hln : n' < l1.length
      rotate_left
      · rw [List.drop_of_length_le (by omega)] at hg
        cases hg
      rw [List.drop_eq_getElem_cons hln] at hg
      simp only at hg
      obtain ⟨ads, es, hsd⟩ := Kd.at_int (Kd.C_below HR1.out HW6.out) (n' : Int) (by omega) (by omega)
      cases es
      have hrs : rd l1 (n' : Int) = l1[n'] := by simp [rd, List.getD_eq_getElem?_getD, hln]
      rw [hrs, Int.toNat_natCast] at hsd
      generalize l1[n'] = s at hsd hg
      clear hrs
      have HSN := Aside0.mk hln
      have s0t : ((0 : Int) ≤ (n' : Int)) = True := eq_true (by omega)
      have s1t : ((n' : Int) < (l1.length : Int)) = True := eq_true (by omega)
      have s2t := eq_true hln
      have HGG := Aside0.mk hg
      clear hg hln
      have HWN : Aside0 (wrap64 ((n' : Int) + 1) = ((n' + 1 : Nat) : Int)) := ⟨by have := HM.out; have := HSN.out; unfold wrap64; omega⟩
      go_wp2_with fail
      refine start_ (n := 11) (S := fun w' => w'.cell? ⟨gp, 0, none⟩ = some (.string p.f0.f0) ∧ w'.cell? ⟨gp, 1, none⟩ = some (.string p.f0.f1) ∧ w'.cell? ⟨gp, 2, none⟩ = some (.string p.f0.f2) ∧ w'.cell? ⟨gp, 3, none⟩ = some (.bool p.f1) ∧ w'.cell? ⟨gp, 4, none⟩ = some (.string p.f2) ∧ w'.cell? ⟨gp, 5, none⟩ = some (.string p.f3) ∧ w'.cell? ⟨gp, 6, none⟩ = some (.string p.f4) ∧ w'.cell? ⟨gp, 7, none⟩ = some (.string p.f5) ∧ w'.cell? ⟨gp, 8, none⟩ = some (.bool p.f6) ∧ w'.cell? (ads.add n') = some (.int .i64 s)) (ds := []) #[false, false, false, false, false, false, false, false, false, false, false] (by kernel_rfl) rfl rfl ⟨(blk_cell BP6.out 0).trans (show _ = some _ from rfl), (blk_cell BP6.out 1).trans (show _ = some _ from rfl), (blk_cell BP6.out 2).trans (show _ = some _ from rfl), (blk_cell BP6.out 3).trans (show _ = some _ from rfl), (blk_cell BP6.out 4).trans (show _ = some _ from rfl), (blk_cell BP6.out 5).trans (show _ = some _ from rfl), (blk_cell BP6.out 6).trans (show _ = some _ from rfl), (blk_cell BP6.out 7).trans (show _ = some _ from rfl), (blk_cell BP6.out 8).trans (show _ = some _ from rfl), hsd⟩ (fun hHeld => ?_); refine with_tabW resolve_Each.tab12 resolve_Each.bits12 (fun HT_ HW_ => ?_)
      replace HU6 := Aside0.mk (isBuilderF_below HU6.out (below_drew1 (Below.refl _ _)))
      replace HW6 := Aside0.mk (below_drew1 HW6.out)
      replace BP6 := Aside0.mk (blk_drew BP6.out)
      replace HL6 : Aside0 (b < w6.drew.heap.size) := HL6
      clear hsd hh
      generalize w6.drew = w7 at HU6 HW6 BP6 HL6 hHeld ⊢
      refine take_ (i := 0) (N := some 35) (v := ?_) (a' := ?_) #[true, false, false, false, false, false, false, false, false, false, false] rfl rfl (take_ofW HT_.out HW_.out (by kernel_rfl)) (fun _ _ _ h => h) (Or.inl ⟨by rfl, ?_⟩) hHeld ?_ ?_
      rotate_left
      · rintro w' ⟨s0, s1, s2, s3, s4, s5, s6, s7, s8, s9⟩
        go_simp
        with_reducible rfl
      rotate_left
      · simp only [Act.put, List.setIfInBounds_toArray, List.set_cons_zero, List.set_cons_succ, i64_w, i32_w]
        rfl
      refine pure_ (i := 1) (N := some 36) (v := ?_) (a' := ?_) #[true, true, false, false, false, false, false, false, false, false, false] rfl rfl (any_of HT_.out (by kernel_rfl)) (fun _ _ _ h => h) (Or.inl ⟨by rfl, ?_⟩) ?_ ?_
      rotate_left
      · intro w'
        go_simp
        with_reducible rfl
      rotate_left
      · simp only [Act.put, List.setIfInBounds_toArray, List.set_cons_zero, List.set_cons_succ, i64_w, i32_w]
        rfl
      refine pure_ (i := 2) (N := some 37) (v := ?_) (a' := ?_) #[true, true, true, false, false, false, false, false, false, false, false] rfl rfl (any_of HT_.out (by kernel_rfl)) (fun _ _ _ h => h) (Or.inl ⟨by rfl, ?_⟩) ?_ ?_
      rotate_left
      · intro w'
        go_simp
        with_reducible rfl
      rotate_left
      · simp only [Act.put, List.setIfInBounds_toArray, List.set_cons_zero, List.set_cons_succ, i64_w, i32_w]
        rfl
      refine pure_ (i := 3) (N := some 38) (v := ?_) (a' := ?_) #[true, true, true, true, false, false, false, false, false, false, false] rfl rfl (any_of HT_.out (by kernel_rfl)) (fun _ _ _ h => h) (Or.inl ⟨by rfl, ?_⟩) ?_ ?_
      rotate_left
      · intro w'
        go_simp
        with_reducible rfl
      rotate_left
      · simp only [Act.put, List.setIfInBounds_toArray, List.set_cons_zero, List.set_cons_succ, i64_w, i32_w]
        rfl
      refine take_ (i := 4) (N := some 39) (v := ?_) (a' := ?_) #[true, true, true, true, true, false, false, false, false, false, false] rfl rfl (take_ofW HT_.out HW_.out (by kernel_rfl)) (fun _ _ _ h => h) (Or.inl ⟨by rfl, ?_⟩) hHeld ?_ ?_
      rotate_left
      · rintro w' ⟨s0, s1, s2, s3, s4, s5, s6, s7, s8, s9⟩
        go_simp
        with_reducible rfl
      rotate_left
      · simp only [Act.put, List.setIfInBounds_toArray, List.set_cons_zero, List.set_cons_succ, i64_w, i32_w]
        rfl
      refine one_ (i := 5) (N := some 40) #[true, true, true, true, true, true, false, false, false, false, false] rfl rfl (one_of HT_.out (by kernel_rfl)) (by decide) (fun K hK => ?_)
      refine goes_ Try.func104 (by kernel_rfl) rfl #[.agg #[.string p.f0.f0, .string p.f0.f1, .string p.f0.f2, .bool true, .string p.f2, .string p.f3, .string p.f4, .string p.f5, .bool p.f6], .int .i64 s] (by rfl) rfl rfl (by (try simp only [List.map_toArray, List.map_cons, List.map_nil]); first | done | rfl) ?_
      obtain ⟨⟨t, er⟩, hpk⟩ : ∃ x, pickF p s = x := ⟨_, rfl⟩
      have hq := pick_calls p s t er w7 hpk
      rw [hft] at hq
      refine hq.mono ?_
      clear hq
      rintro e w8 ⟨rfl, hb⟩
      refine ⟨_, rfl, ?_⟩
      have HU8 := Aside0.mk (isBuilderF_below HU6.out hb)
      have HW8 := Aside0.mk (below_step HW6.out hb)
      have HL8 : Aside0 (b < w8.heap.size) := ⟨Nat.lt_of_lt_of_le HL6.out hb.size⟩
      have hg := HGG.out
      rw [hpk] at hg
      have HG8 := Aside0.mk hg
      refine hK.out _ _ (hold10_64 hb hHeld) (fun hHeld => ?_)
      clear hb hpk hg HGG HU6 HW6 HL6 BP6
      clear hK K
      refine norm_ (a' := ?_) ?_ ?_
      rotate_left
      · show Act.put _ (some 40) _ = _
        simp only [Act.put, List.setIfInBounds_toArray, List.set_cons_zero, List.set_cons_succ, i64_w, i32_w]
        rfl
      refine pure_ (i := 6) (N := some 34) (v := ?_) (a' := ?_) #[true, true, true, true, true, true, true, false, false, false, false] rfl rfl (any_of HT_.out (by kernel_rfl)) (fun _ _ _ h => h) (Or.inl ⟨by rfl, ?_⟩) ?_ ?_
      rotate_left
      · intro w'
        go_simp
        with_reducible rfl
      rotate_left
      · simp only [Act.put, List.setIfInBounds_toArray, List.set_cons_zero, List.set_cons_succ, i64_w, i32_w]
        rfl
      refine pure_ (i := 7) (N := some 41) (v := ?_) (a' := ?_) #[true, true, true, true, true, true, true, true, false, false, false] rfl rfl (any_of HT_.out (by kernel_rfl)) (fun _ _ _ h => h) (Or.inl ⟨by rfl, ?_⟩) ?_ ?_
      rotate_left
      · intro w'
        go_simp
        with_reducible rfl
      rotate_left
      · simp only [Act.put, List.setIfInBounds_toArray, List.set_cons_zero, List.set_cons_succ, i64_w, i32_w]
        rfl
      refine pure_ (i := 8) (N := some 42) (v := ?_) (a' := ?_) #[true, true, true, true, true, true, true, true, true, false, false] rfl rfl (any_of HT_.out (by kernel_rfl)) (fun _ _ _ h => h) (Or.inl ⟨by rfl, ?_⟩) ?_ ?_
      rotate_left
      · intro w'
        go_simp
        with_reducible rfl
      rotate_left
      · simp only [Act.put, List.setIfInBounds_toArray, List.set_cons_zero, List.set_cons_succ, i64_w, i32_w]
        rfl
      refine pure_ (i := 9) (N := some 10) (v := ?_) (a' := ?_) #[true, true, true, true, true, true, true, true, true, true, false] rfl rfl (any_of HT_.out (by kernel_rfl)) (fun _ _ _ h => h) (Or.inl ⟨by rfl, ?_⟩) ?_ ?_
      rotate_left
      · intro w'
        go_simp
        with_reducible rfl
      rotate_left
      · simp only [Act.put, List.setIfInBounds_toArray, List.set_cons_zero, List.set_cons_succ, i64_w, i32_w]
        rfl
      refine pure_ (i := 10) (N := some 11) (v := ?_) (a' := ?_) #[true, true, true, true, true, true, true, true, true, true, true] rfl rfl (any_of HT_.out (by kernel_rfl)) (fun _ _ _ h => h) (Or.inl ⟨by rfl, ?_⟩) ?_ ?_
      rotate_left
      · intro w'
        go_simp
        with_reducible rfl
      rotate_left
      · simp only [Act.put, List.setIfInBounds_toArray, List.set_cons_zero, List.set_cons_succ, i64_w, i32_w]
        rfl
      refine done_ (done_of HT_.out (by kernel_rfl)) ?_
      clear hHeld
      by_cases her : er = 0
      rotate_left
      · have hg := HG8.out
        rw [if_neg her] at hg
        simp only [Option.some.injEq, Prod.mk.injEq] at hg
        have HGE := Aside0.mk hg
        have r1 : (er == 0) = false := beq_eq_false_iff_ne.mpr her
        have r2 : (er != 0) = true := bne_iff_ne.mpr her
        have r3 : decide (er = 0) = false := decide_eq_false her
        clear hg her
        go_wp2_with fail
        go_ret2
        rw [← HGE.out.1, ← HGE.out.2]
        exact ⟨rfl, HW8.out⟩
      have hg := HG8.out
      rw [if_pos her] at hg
      split at hg
      case isFalse => cases hg
      rename_i hsz2
      have HSZ2 := Aside0.mk hsz2
      have HG9 := Aside0.mk hg
      subst her
      clear hg hsz2 HG8
      go_wp2_with fail
      refine (Try.Builder_WriteString_k w.heap.size b _ t w8 HU8.out (by rw [Lib.byteCells_length]; exact HSZ2.out) HW8.out.size).mono ?_
      rintro e w9 ⟨rfl, hbu, hb, hk⟩
      rw [bytes_app] at hbu
      have HU9 := Aside0.mk (Or.inr hbu : Lib.IsBuilderF 162 5 w.heap.size b _ w9)
      have HW9 := Aside0.mk (HW8.out.trans hb)
      have HL9 : Aside0 (b < w9.heap.size) := ⟨Lib.BuilderAtF.lt hbu⟩
      clear hbu hb hk HU8 HW8 HL8
      go_wp2_with fail
      go_roundw
      case rel => exact ⟨i + 1, n' + 1, _, by rw [HWN.out], by rw [HWI.out], ⟨HLI.out, HSN.out⟩, HU9, HW9, HL9, HG9⟩
      case measure => rw [HWI.out]; have := HLI.out; simp only [intOf, Int.toNat_natCast]; omega
end Go.Proofs.Ytadafplbgophfaa.PA
end
section
namespace Go.Proofs.Ytadafplbgophfaa.PA
set_option linter.unusedSimpArgs false
set_option linter.unusedVariables false
open Go.RowKit Go.Proofs.YtadafplbgophfaaW.PrintWords Go.Proofs.YtadafplbgophfaaW.PrintLast Go.Proofs.YtadafplbgophfaaW.PrintMore
def resolve_All.f (k : Nat) (l0 : List S120) (side : Int) : Option (ByteArray × Int) :=
  (doc_Doc_Right.f k l0).bind fun r => if r = true then (if side < 1 ∨ 3 < side then some (⟨#[]⟩, 5) else (doc_Doc_Conflicts.f k l0).bind fun n => (slices_Repeat_int_int.f k [side] n).bind fun ss => resolve_Each.f k l0 ss) else some (⟨#[]⟩, 11)
theorem resolve_All.mono : ∀ a0 a1 k, LeO (resolve_All.f k a0 a1) (resolve_All.f (k + 1) a0 a1) := by
  intro a0 a1 k
  unfold resolve_All.f
  repeat' first
    | exact doc_Doc_Right.mono _ _
    | exact doc_Doc_Conflicts.mono _ _
    | exact slices_Repeat_int_int.mono _ _ _
    | exact resolve_Each.mono _ _ _
    | exact LeO.refl _
    | refine LeO.ite ?_ ?_
    | refine LeO.bind ?_ (fun _ => ?_)
set_option maxHeartbeats 8000000 in
set_option maxRecDepth 100000 in
theorem resolve_All.calls (k : Nat) (A0 : Option Addr) (c0 : Nat) (l0 : List S120) (side : Int) (r1 : ByteArray) (r2 : Int) (w : World) (hr0 : Kd.C k120 w A0 l0.length l0) (hc0 : l0.length ≤ c0) (h : resolve_All.f k l0 side = some (r1, r2)) :
    Calls Try.prog 62 #[.slice A0 l0.length c0, .int .i64 side] w fun e w' => e = .returned (.tuple #[.string r1, .int .i64 r2]) ∧ Below w.heap.size w w' := by
  unfold resolve_All.f at h
  replace h := Option.bind_eq_some_iff.1 h
  obtain ⟨r, hr, h⟩ := h
  have HR0 := Aside0.mk hr0
  have HC0 := Aside0.mk hc0
  have FR := Aside0.mk hr
  clear hr0 hc0 hr
  have hu120 := Try.underlying120
  by_cases hrt : r = true
  rotate_left
  · rw [if_neg hrt] at h
    simp only [Option.some.injEq, Prod.mk.injEq] at h
    obtain ⟨rfl, rfl⟩ := h
    obtain rfl : r = false := by simpa using hrt
    clear hrt
    go_enter Try.func62, Try.ntmps62
    go_wp2_with fail
    refine (doc_Doc_Right.calls k A0 c0 l0 false w HR0.out HC0.out FR.out).mono ?_
    rintro e w1 ⟨rfl, hb⟩
    have HB := Aside0.mk hb
    clear hb
    go_wp2_with fail
    go_ret2
    exact ⟨rfl, HB.out⟩
  subst hrt
  rw [if_pos rfl] at h
  by_cases hs : side < 1 ∨ 3 < side
  · rw [if_pos hs] at h
    simp only [Option.some.injEq, Prod.mk.injEq] at h
    obtain ⟨rfl, rfl⟩ := h
    by_cases h1 : side < 1
    · have d1 : decide (side < 1) = true := decide_eq_true h1
      clear hs
      go_enter Try.func62, Try.ntmps62
      go_wp2_with fail
      refine (doc_Doc_Right.calls k A0 c0 l0 true w HR0.out HC0.out FR.out).mono ?_
      rintro e w1 ⟨rfl, hb⟩
      have HB := Aside0.mk hb
      clear hb
      go_wp2_with fail
      go_ret2
      exact ⟨rfl, HB.out⟩
    · have d1 : decide (side < 1) = false := decide_eq_false h1
      have d3 : decide (3 < side) = true := decide_eq_true (by omega)
      clear hs
      go_enter Try.func62, Try.ntmps62
      go_wp2_with fail
      refine (doc_Doc_Right.calls k A0 c0 l0 true w HR0.out HC0.out FR.out).mono ?_
      rintro e w1 ⟨rfl, hb⟩
      have HB := Aside0.mk hb
      clear hb
      go_wp2_with fail
      go_ret2
      exact ⟨rfl, HB.out⟩
  rw [if_neg hs] at h
  have d1 : decide (side < 1) = false := decide_eq_false (by omega)
  have d3 : decide (3 < side) = false := decide_eq_false (by omega)
  replace h := Option.bind_eq_some_iff.1 h
  obtain ⟨n, hn, h⟩ := h
  replace h := Option.bind_eq_some_iff.1 h
  obtain ⟨ss, hss, h⟩ := h
  have FN := Aside0.mk hn
  have FS := Aside0.mk hss
  have FE := Aside0.mk h
  clear hn hss h hs
  go_enter Try.func62, Try.ntmps62
  go_wp2_with fail
  refine (doc_Doc_Right.calls k A0 c0 l0 true w HR0.out HC0.out FR.out).mono ?_
  rintro e w1 ⟨rfl, hb⟩
  have HB := Aside0.mk hb
  clear hb
  go_wp2_with fail
  have hal : Below w1.heap.size w1 (w1.alloc (.cells #[.int .i64 side] 3 (0, 0))) := below_alloc (Below.refl _ _) _
  have HLI : Aside0 (Kd.C (Kd.int .i64) (w1.alloc (.cells #[.int .i64 side] 3 (0, 0))) (some ⟨w1.heap.size, 0, none⟩) [side].length [side]) := ⟨C_lit (Kd.int .i64) rfl w1 3 [side] [.int .i64 side] rfl (by simp) (fun j p u hp hu => by
    match j, hp, hu with
    | 0, hp, hu => cases hp; cases hu; rfl
    | (j + 1), hp, hu => simp at hp)⟩
  have HB2 := Aside0.mk (below_step HB.out hal)
  clear hal
  generalize (w1.alloc (.cells #[.int .i64 side] 3 (0, 0))) = w2 at HLI HB2 ⊢
  refine (doc_Doc_Conflicts.calls k A0 c0 l0 n w2 (Kd.C_below HR0.out HB2.out) HC0.out FN.out).mono ?_
  rintro e w3 ⟨rfl, hb⟩
  replace HLI := Aside0.mk (Kd.C_below HLI.out hb)
  have HB3 := Aside0.mk (below_step HB2.out hb)
  clear hb
  go_wp2_with fail
  refine (slices_Repeat_int_int.calls k (some ⟨w1.heap.size, 0, none⟩) 1 [side] n ss w3 HLI.out (Nat.le_refl _) FS.out).mono ?_
  rintro e w4 ⟨v0_, rfl, hR, hb⟩
  have HB4 := Aside0.mk (below_step HB3.out hb)
  obtain ⟨A, c, rfl, hc, hC⟩ := Kd.R_reads hR
  have HS := Aside0.mk hC
  have HL := Aside0.mk hc
  clear hb hR hc hC
  go_wp2_with fail
  refine (resolve_Each.calls k A0 c0 l0 A c ss r1 r2 w4 (Kd.C_below HR0.out HB4.out) HC0.out HS.out HL.out FE.out).mono ?_
  rintro e w5 ⟨rfl, hb⟩
  have HB5 := Aside0.mk (below_step HB4.out hb)
  clear hb
  go_wp2_with fail
  go_ret2
  exact ⟨rfl, HB5.out⟩
end Go.Proofs.Ytadafplbgophfaa.PA
end
