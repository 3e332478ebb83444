/- Part 5 of what the row of the law BuildDocs rests on: walks of functions, and plain lemmas (in part printed by the kit's print, what is not reached left out). -/
import Derived.Test.YtadafplbgophfaabuildDocs4
import Derived.Shelf.Strings.Builder1
import Derived.Shelf.Strings.Builder2
import Derived.Shelf.Strings.OnBuilder
import Derived.Shelf.Strings.BuilderF
import Derived.Shelf.Strings.BuilderK
import Derived.Shelf.Strings.Builder2Cap
import Derived.Shelf.Strings.Search1
import Derived.Shelf.Strings.Search2
import Derived.Shelf.Strings.Search3
import Derived.Shelf.LaysM
import Derived.Shelf.Strings.Shaped
import Derived.Shelf.Strings.Prefix
import Derived.Shelf.Bits.Mul64
import Derived.Shelf.Strings.BuilderCap
import Derived.Shelf.Slices.Equal
import Derived.Ground.Names2Prog
import Derived.Shelf.Slices.Clone
import Derived.Shelf.Slices.Empties2
import Derived.Ground.SlgnProg
import Derived.Shelf.SlicesE.Clone
import Derived.Test.YtadafplbgophfaaProg
import Derived.Lib.IndexAny
import Derived.Lib.RabinKarpLaws
import Derived.Deep.Cut
set_option linter.unusedVariables false
set_option linter.unusedSimpArgs false
section
namespace Go.Proofs
open Go.Shelf
def Try.lays156_ren : Go.Shelf.Ren := ⟨fun | 156 => 149 | 165 => 154 | 166 => 103 | 169 => 105 | 240 => 132 | 241 => 157 | 276 => 144 | 277 => 158 | n => n, fun | 31 => 27 | 9 => 9 | 3 => 3 | 4 => 4 | 0 => 0 | 20 => 20 | 72 => 162 | 76 => 165 | 70 => 159 | 37 => 160 | 75 => 164 | 127 => 203 | 164 => 215 | 5 => 5 | 80 => 168 | n => n, fun | n => n⟩
theorem Try.lays156 : Go.Proofs.Lays.n156 Try.prog Try.lays156_ren := {
 mixed := by kernel_rfl
 f156 := Try.func149.trans (congrArg some (by kernel_rfl))
 f165 := Try.func154.trans (congrArg some (by kernel_rfl))
 f166 := Try.func103.trans (congrArg some (by kernel_rfl))
 f169 := Try.func105.trans (congrArg some (by kernel_rfl))
 f240 := Try.func132.trans (congrArg some (by kernel_rfl))
 f241 := Try.func157.trans (congrArg some (by kernel_rfl))
 f276 := Try.func144.trans (congrArg some (by kernel_rfl))
 f277 := Try.func158.trans (congrArg some (by kernel_rfl))
 t0 := Try.underlying0
 a0 := Try.isAgg0
 z0 := Try.sizeOf0
 v0 := Try.zeroValue0
 t3 := Try.underlying3
 a3 := Try.isAgg3
 z3 := Try.sizeOf3
 v3 := Try.zeroValue3
 t4 := Try.underlying4
 a4 := Try.isAgg4
 z4 := Try.sizeOf4
 v4 := Try.zeroValue4
 t9 := Try.underlying9
 a9 := Try.isAgg9
 z9 := Try.sizeOf9
 v9 := Try.zeroValue9
 t20 := Try.underlying20
 a20 := Try.isAgg20
 z20 := Try.sizeOf20
 v20 := Try.zeroValue20
 t31 := Try.underlying27
 a31 := Try.isAgg27
 z31 := Try.sizeOf27
 v31 := Try.zeroValue27
 t37 := Try.underlying160
 a37 := Try.isAgg160
 z37 := Try.sizeOf160
 v37 := Try.zeroValue160
 t70 := Try.underlying159
 a70 := Try.isAgg159
 z70 := Try.sizeOf159
 v70 := Try.zeroValue159
 t72 := Try.underlying162
 a72 := Try.isAgg162
 z72 := Try.sizeOf162
 v72 := Try.zeroValue162
 t75 := Try.underlying164
 a75 := Try.isAgg164
 z75 := Try.sizeOf164
 v75 := Try.zeroValue164
 t76 := Try.underlying165
 a76 := Try.isAgg165
 z76 := Try.sizeOf165
 v76 := Try.zeroValue165
 t127 := Try.underlying203
 a127 := Try.isAgg203
 z127 := Try.sizeOf203
 v127 := Try.zeroValue203
 t164 := Try.underlying215
 a164 := Try.isAgg215
 z164 := Try.sizeOf215
 v164 := Try.zeroValue215 }
theorem Try.Builder_Extra_156 : Builder.Extra Try.prog Try.lays156_ren := {
 sizeBuilder := by kernel_rfl
 liesBuilder := by kernel_rfl
 t5 := Try.underlying5
 a5 := Try.isAgg5
 z5 := Try.sizeOf5
 v5 := Try.zeroValue5
 infoByte := by kernel_rfl
 cellsByte := by kernel_rfl
 sizeByte := by kernel_rfl
 neB5 := by decide }
open Go.RowKit in
theorem Try.strings_Join_none (a : Option Addr) (c : Nat) (sep : ByteArray) (w : World) :
  Calls Try.prog 149 #[.slice a 0 c, .string sep] w fun e w' => e = .returned (.string ⟨#[]⟩) ∧ w' = w := Any.strings_Join_none Try.lays156 Try.Builder_Extra_156 a c sep w
open Go.RowKit in
theorem Try.strings_Join (bk o c : Nat) (xs : List ByteArray) (sep : ByteArray) (w : World) (hcells : ∀ (j : Nat) x, xs[j]? = some x → w.cell? ⟨bk, o + j, none⟩ = some (.string x)) (hbk : bk < w.heap.size) (hN : xs.length ≤ 140737488355328) (hcap : xs.length ≤ c) (hlen : (Lib.join (xs.map (·.data.toList)) sep.data.toList).length ≤ 140737488355328) :
  Calls Try.prog 149 #[.slice (some ⟨bk, o, none⟩) xs.length c, .string sep] w fun e w' => e = .returned (.string ⟨(Lib.join (xs.map (·.data.toList)) sep.data.toList).toArray⟩) ∧ Below w.heap.size w w' := Any.strings_Join Try.lays156 Try.Builder_Extra_156 bk o c xs sep w hcells hbk hN hcap hlen
def Try.lays144_ren : Go.Shelf.Ren := ⟨fun | 144 => 135 | 143 => 145 | 219 => 148 | 217 => 150 | 225 => 151 | 224 => 152 | 267 => 153 | 266 => 155 | 314 => 156 | n => n, fun | 9 => 9 | 4 => 4 | 3 => 3 | 5 => 5 | 46 => 199 | 146 => 210 | 51 => 209 | n => n, fun | 1 => 0 | n => n⟩
theorem Try.lays144 : Go.Proofs.Lays.n144 Try.prog Try.lays144_ren := {
 mixed := by kernel_rfl
 f143 := Try.func145.trans (congrArg some (by kernel_rfl))
 f144 := Try.func135.trans (congrArg some (by kernel_rfl))
 f217 := Try.func150.trans (congrArg some (by kernel_rfl))
 f219 := Try.func148.trans (congrArg some (by kernel_rfl))
 f224 := Try.func152.trans (congrArg some (by kernel_rfl))
 f225 := Try.func151.trans (congrArg some (by kernel_rfl))
 f266 := Try.func155.trans (congrArg some (by kernel_rfl))
 f267 := Try.func153.trans (congrArg some (by kernel_rfl))
 f314 := Try.func156.trans (congrArg some (by kernel_rfl))
 t3 := Try.underlying3
 a3 := Try.isAgg3
 z3 := Try.sizeOf3
 v3 := Try.zeroValue3
 t4 := Try.underlying4
 a4 := Try.isAgg4
 z4 := Try.sizeOf4
 v4 := Try.zeroValue4
 t5 := Try.underlying5
 a5 := Try.isAgg5
 z5 := Try.sizeOf5
 v5 := Try.zeroValue5
 t9 := Try.underlying9
 a9 := Try.isAgg9
 z9 := Try.sizeOf9
 v9 := Try.zeroValue9
 t46 := Try.underlying199
 a46 := Try.isAgg199
 z46 := Try.sizeOf199
 v46 := Try.zeroValue199
 t51 := Try.underlying209
 a51 := Try.isAgg209
 z51 := Try.sizeOf209
 v51 := Try.zeroValue209
 t146 := Try.underlying210
 a146 := Try.isAgg210
 z146 := Try.sizeOf210
 v146 := Try.zeroValue210
 g1 := by kernel_rfl }
open Go.RowKit Go.Lib in
theorem Try.strings_Contains_one (s : ByteArray) (c : UInt8) (w : World) :
  Calls Try.prog 135 #[.string s, .string ⟨#[c]⟩] w fun e w' => e = .returned (.bool (decide (0 ≤ Lib.indexByte s.data.toList c))) ∧ w' = w := Any.strings_Contains_one Try.lays144 s c w
open Go.RowKit Go.Lib in
theorem Try.strings_Contains (s sub : ByteArray) (m : Int) (w : World) (hs : s.size < 4294967281) (hm : w.cell? ⟨0, 0, none⟩ = some (.int .i64 m)) :
  Calls Try.prog 135 #[.string s, .string sub] w fun e w' => e = .returned (.bool (Lib.contains s.data.toList sub.data.toList)) ∧ w' = w := Any.strings_Contains Try.lays144 s sub m w hs hm
def Try.lays207_ren : Go.Shelf.Ren := ⟨fun | 207 => 133 | n => n, fun | 9 => 9 | 4 => 4 | 3 => 3 | n => n, fun | n => n⟩
theorem Try.lays207 : Go.Proofs.Lays.n207 Try.prog Try.lays207_ren := {
 mixed := by kernel_rfl
 f207 := Try.func133.trans (congrArg some (by kernel_rfl))
 t3 := Try.underlying3
 a3 := Try.isAgg3
 z3 := Try.sizeOf3
 v3 := Try.zeroValue3
 t4 := Try.underlying4
 a4 := Try.isAgg4
 z4 := Try.sizeOf4
 v4 := Try.zeroValue4
 t9 := Try.underlying9
 a9 := Try.isAgg9
 z9 := Try.sizeOf9
 v9 := Try.zeroValue9 }
open Go.RowKit Go.Lib in
theorem Try.stringslite_HasSuffix (s p : ByteArray) (w : World) (hs : s.size ≤ 9223372036854775807) :
  Calls Try.prog 133 #[.string s, .string p] w fun e w' => e = .returned (.bool (Lib.hasSuffix s.data.toList p.data.toList)) ∧ w' = w := Any.stringslite_HasSuffix Try.lays207 s p w hs
def Try.lays100_ren : Go.Shelf.Ren := ⟨fun | 100 => 109 | 207 => 133 | n => n, fun | 9 => 9 | 4 => 4 | 3 => 3 | n => n, fun | n => n⟩
theorem Try.lays100 : Go.Proofs.Lays.n100 Try.prog Try.lays100_ren := {
 mixed := by kernel_rfl
 f100 := Try.func109.trans (congrArg some (by kernel_rfl))
 f207 := Try.func133.trans (congrArg some (by kernel_rfl))
 t3 := Try.underlying3
 a3 := Try.isAgg3
 z3 := Try.sizeOf3
 v3 := Try.zeroValue3
 t4 := Try.underlying4
 a4 := Try.isAgg4
 z4 := Try.sizeOf4
 v4 := Try.zeroValue4
 t9 := Try.underlying9
 a9 := Try.isAgg9
 z9 := Try.sizeOf9
 v9 := Try.zeroValue9 }
open Go.RowKit Go.Lib in
theorem Try.strings_HasSuffix (s p : ByteArray) (w : World) (hs : s.size ≤ 9223372036854775807) :
  Calls Try.prog 109 #[.string s, .string p] w fun e w' => e = .returned (.bool (Lib.hasSuffix s.data.toList p.data.toList)) ∧ w' = w := Any.strings_HasSuffix Try.lays100 s p w hs
end Go.Proofs
end
section
namespace Go.Proofs.Ytadafplbgophfaa.PA
open Go.RowKit Go.Proofs.YtadafplbgophfaaW.PrintWords Go.Proofs.YtadafplbgophfaaW.PrintLast Go.Proofs.YtadafplbgophfaaW.PrintMore
def Vf.f (_k : Nat) (a0 a1 : ByteArray) : Option Bool := if a1 = ⟨#[10]⟩ then some (decide (0 ≤ Lib.indexByte a0.data.toList 10)) else none
theorem Vf.calls (k : Nat) (a0 a1 : ByteArray) (r : Bool) (w : World) (h : Vf.f k a0 a1 = some r) :
  Calls Try.prog 135 #[.string a0, .string a1] w fun e w' => e = .returned (.bool r) ∧ Below w.heap.size w w' := by
 unfold Vf.f at h
 split at h
 case isFalse => cases h
 rename_i hG
 subst hG
 simp only [Option.some.injEq] at h
 subst h; refine (Try.strings_Contains_one a0 10 w).mono ?_; rintro e w' ⟨rfl, rfl⟩; exact ⟨rfl, Below.refl _ _⟩
def Qgr (l : List ByteArray) (sep : ByteArray) : List UInt8 := Lib.join (l.map (·.data.toList)) sep.data.toList
def Vy.f (_k : Nat) (l0 : List ByteArray) (a1 : ByteArray) : Option ByteArray := if l0.length ≤ 140737488355328 ∧ (Qgr l0 a1).length ≤ 140737488355328 then some ⟨(Qgr l0 a1).toArray⟩ else none
theorem Vy.mono : ∀ a0 a1 k, LeO (Vy.f k a0 a1) (Vy.f (k + 1) a0 a1) := fun _ _ _ => LeO.refl _
theorem Vy.calls (k : Nat) (A0 : Option Addr) (c0 : Nat) (l0 : List ByteArray) (a1 : ByteArray) (r : ByteArray) (w : World) (hr0 : Kd.C Kd.string w A0 l0.length l0) (hc0 : l0.length ≤ c0) (h : Vy.f k l0 a1 = some r) :
  Calls Try.prog 149 #[.slice A0 l0.length c0, .string a1] w fun e w' => e = .returned (.string r) ∧ Below w.heap.size w w' := by
 unfold Vy.f at h
 split at h
 case isFalse => cases h
 rename_i hG
 obtain ⟨hN, hJ⟩ := hG
 simp only [Option.some.injEq] at h
 subst h
 by_cases hl : l0 = []
 ·subst hl
  refine (Try.strings_Join_none A0 c0 a1 w).mono ?_; rintro e w' ⟨rfl, rfl⟩; exact ⟨rfl, Below.refl _ _⟩
 ·have hpos : 0 < l0.length := List.length_pos_iff.2 hl
  obtain ⟨ad, rfl, hc⟩ := Kd.at_string hr0 0 (Int.le_refl _) (by omega)
  have hs : ad.spot = none := by
   cases hsp : ad.spot with
   | none => rfl
   | some v =>
    unfold World.cell? at hc
    split at hc
    ·rw [if_pos (by simp [Addr.add, hsp])] at hc; cases hc
    ·cases hc
  obtain ⟨bk, o, sp⟩ := ad
  simp only at hs
  subst hs; refine (Try.strings_Join bk o c0 l0 a1 w (fun j x hj => ?_) (World.block_lt_of_cell? w _ hc) hN hc0 hJ).mono ?_
  ·have hjl : j < l0.length := (List.getElem?_eq_some_iff.1 hj).1
   obtain ⟨ad, he, hcj⟩ := Kd.at_string hr0 (j : Int) (by omega) (by omega)
   cases he
   have e : Ye ByteArray.empty l0 (j : Int) = x := by simp [Ye, List.getD_eq_getElem?_getD, hj]
   rw [e] at hcj
   by_cases hj0 : j = 0
   ·subst hj0
    simpa [Addr.add] using hcj
   ·simpa [Addr.add, hj0] using hcj
  ·rintro e w' ⟨rfl, hb⟩
   exact ⟨rfl, hb⟩
end Go.Proofs.Ytadafplbgophfaa.PA
end
section
namespace Go.Proofs.Ytadafplbgophfaa.PA
open Go.RowKit Go.Proofs.YtadafplbgophfaaW.PrintWords Go.Proofs.YtadafplbgophfaaW.PrintLast Go.Proofs.YtadafplbgophfaaW.PrintMore
attribute [local go_sem] Xx Xz Yk Yl Xj Xk Xy Ya
def Xt.f (k : Nat) (a0 : ByteArray) (a1 : ByteArray) (a2 : ByteArray) : Option (Bool) := if a0.size + a1.size ≤ 9223372036854775807 then (if (a0 ++ a1).size + a2.size ≤ 9223372036854775807 then ((Vf.f k ((a0 ++ a1) ++ a2) (⟨#[10]⟩ : ByteArray)).bind fun a4 => (some (!a4))) else (none)) else (none)
set_option maxHeartbeats 8000000 in
set_option maxRecDepth 100000 in
theorem Xt.calls (k : Nat) (a0 : ByteArray) (a1 : ByteArray) (a2 : ByteArray) (r : Bool) (w : World) (h : Xt.f k a0 a1 a2 = some r) :
  Calls Try.prog 116 #[.agg #[.string a0, .string a1, .string a2]] w fun e w' => e = .returned (.bool r) ∧ Below w.heap.size w w' := by
 have hu116 := Try.underlying116; have HB := Qa.mk (Below.refl w.heap.size w); have H : (if a0.size + a1.size ≤ 9223372036854775807 then (if (a0 ++ a1).size + a2.size ≤ 9223372036854775807 then ((Vf.f k ((a0 ++ a1) ++ a2) (⟨#[10]⟩ : ByteArray)).bind fun a4 => (some (!a4))) else (none)) else (none)) = some r := h; clear h
 by_cases c2 : a0.size + a1.size ≤ 9223372036854775807
 ·rw [if_pos c2] at H
  have b3 := eq_true c2; have b4 : decide (a0.size + a1.size ≤ 9223372036854775807) = true := decide_eq_true c2
  try have b5 : (9223372036854775807 < a0.size + a1.size) = False := eq_false (Nat.not_lt.2 c2)
  by_cases c3 : (a0 ++ a1).size + a2.size ≤ 9223372036854775807
  ·rw [if_pos c3] at H
   have b6 := eq_true c3; have b7 : decide ((a0 ++ a1).size + a2.size ≤ 9223372036854775807) = true := decide_eq_true c3
   try have b8 : (9223372036854775807 < (a0 ++ a1).size + a2.size) = False := eq_false (Nat.not_lt.2 c3)
   replace H := Option.bind_eq_some_iff.mp H; obtain ⟨a4, A40, H⟩ := H; replace H : (some (!a4)) = some r := H; have A4 := Qa.mk A40; clear A40; obtain rfl := Option.some.inj H
   go_enter Try.func116, Try.ntmps116
   go_wp2_with (first | ((with_reducible refine Zd (N := 1) rfl ?_); refine Zc ?hg (N := 1) ?hd (cs := #[.string a0, .string a1, .string a2]) (t := 116) ?hr ?_; (case hd => rfl); (case hg => rfl); (case hr => first | (go_simp; done) | (go_simp; rfl)); intro a5 hg w5 hbox hb; have n0_ := Qa.mk (Qj bw_ hb); have n1_ := Qa.mk (hbox); have n2_ := Qa.mk ((gw_ hg : w.heap.size ≤ a5)); have n3_ := Qa.mk ((gw_ hg : w.heap.size ≤ a5)); clear HB; have HB := n0_; have a3 := n1_; have b2 := n2_; have GE101 := n3_; clear n0_ n1_ n2_ n3_; clear hb hbox hg; obtain ⟨a6, a7, a8⟩ := Kj a3.out; obtain ⟨a9, b0, b1⟩ := Qll a3.out) | ((with_reducible refine Xo (f := 135) rfl ?_); refine Vb (some 11) rfl rfl Try.func135 (by kernel_rfl) rfl #[.string ((a0 ++ a1) ++ a2), .string (⟨#[10]⟩ : ByteArray)] rfl (by (try simp only [List.map_toArray, List.map_cons, List.map_nil]); first | done | rfl | (simp only [List.length_drop, List.length_take]; rfl)) ?_; (with_reducible refine (Vf.calls k ((a0 ++ a1) ++ a2) (⟨#[10]⟩ : ByteArray) a4 _ A4.out).mono ?_); rintro e w7 ⟨rfl, hb⟩; refine ⟨_, rfl, ?_⟩; have n0_ := Qa.mk (Qq (g := a5) (o := .cells #[.string a0, .string a1, .string a2] 116 (0, 0)) (bk_ a3.out) hb); have n1_ := Qa.mk (Qj bw_ hb); clear a3; clear HB; have a3 := n0_; have HB := n1_; clear n0_ n1_; (try clear hb); (try clear hb2); (try clear hk); (try clear hi))); go_ret; exact ⟨by first | rfl | (simp [Qt, Qu] <;> rfl) | (simp [*, Qt, Qu] <;> rfl), bw_⟩
  ·rw [if_neg c3] at H
   exact absurd H (by simp)
 ·rw [if_neg c2] at H
  exact absurd H (by simp)
mutual
def Zb.l0 : Nat → List (Yv) → Bool → List (Yv) → Int → Int → Option (Bool)
 | 0, _, _, _, _, _ => none
 | k + 1, x0, x3, x6, x7, x8 => if x8 < x7 then (if 0 ≤ x8 then (if x8 < (x6.length : Int) then ((Zv.f ((Qb x6 x8).f0.f0) ((Qb x6 x8).f0.f1) ((Qb x6 x8).f0.f2) ((Qb x6 x8).f1) ((Qb x6 x8).f2) ((Qb x6 x8).f3) ((Qb x6 x8).f4) ((Qb x6 x8).f5) ((Qb x6 x8).f6)).bind fun l7 => (if l7 = true then (Zb.j1 k x0 x3 x8 x6 x7 x8 false ((Qb x6 x8).f0.f0) ((Qb x6 x8).f0.f1) ((Qb x6 x8).f0.f2) ((Qb x6 x8).f1) ((Qb x6 x8).f2) ((Qb x6 x8).f3) ((Qb x6 x8).f4) ((Qb x6 x8).f5) ((Qb x6 x8).f6)) else ((Vh.f ((Qb x6 x8).f0.f0) ((Qb x6 x8).f0.f1) ((Qb x6 x8).f0.f2) ((Qb x6 x8).f1) ((Qb x6 x8).f2) ((Qb x6 x8).f3) ((Qb x6 x8).f4) ((Qb x6 x8).f5) ((Qb x6 x8).f6)).bind fun b8 => (Zb.j1 k x0 x3 x8 x6 x7 x8 (!b8) ((Qb x6 x8).f0.f0) ((Qb x6 x8).f0.f1) ((Qb x6 x8).f0.f2) ((Qb x6 x8).f1) ((Qb x6 x8).f2) ((Qb x6 x8).f3) ((Qb x6 x8).f4) ((Qb x6 x8).f5) ((Qb x6 x8).f6))))) else (none)) else (none)) else (some true)
def Zb.j1 : Nat → List (Yv) → Bool → Int → List (Yv) → Int → Int → Bool → ByteArray → ByteArray → ByteArray → Bool → ByteArray → ByteArray → ByteArray → ByteArray → Bool → Option (Bool)
 | 0, _, _, _, _, _, _, _, _, _, _, _, _, _, _, _, _ => none
 | k + 1, x0, x3, x4, x6, x7, x8, x13, a7, a8, a9, b0, a6, b1, b2, b3, b4 => if x13 = true then (Zb.j2 k x0 x3 x4 x6 x7 x8 x13 a7 a8 a9 b0 a6 b1 b2 b3 b4) else ((Xt.f k a7 a8 a9).bind fun e0 => (Zb.j2 k x0 x3 x4 x6 x7 x8 (!e0) a7 a8 a9 b0 a6 b1 b2 b3 b4))
def Zb.j2 : Nat → List (Yv) → Bool → Int → List (Yv) → Int → Int → Bool → ByteArray → ByteArray → ByteArray → Bool → ByteArray → ByteArray → ByteArray → ByteArray → Bool → Option (Bool)
 | 0, _, _, _, _, _, _, _, _, _, _, _, _, _, _, _, _ => none
 | k + 1, x0, x3, x4, x6, x7, x8, x13, a7, a8, a9, b0, a6, b1, b2, b3, b4 => if x13 = true then (some false) else ((Zv.f a7 a8 a9 b0 a6 b1 b2 b3 b4).bind fun e2 => (if e2 = true then (if x3 = true then (some false) else (if a6.toList = ([] : List UInt8) then (some false) else (if x4 < (wrap64 ((x0.length : Int) - 1)) then ((Ve.f a6 (⟨#[10]⟩ : ByteArray)).bind fun b6 => (if b6 = true then ((Zv.f a7 a8 a9 b0 a6 b1 b2 b3 b4).bind fun a4 => (Zb.l0 k x0 a4 x6 x7 (wrap64 (x8 + 1)))) else (some false))) else ((Zv.f a7 a8 a9 b0 a6 b1 b2 b3 b4).bind fun b5 => (Zb.l0 k x0 b5 x6 x7 (wrap64 (x8 + 1))))))) else ((Zv.f a7 a8 a9 b0 a6 b1 b2 b3 b4).bind fun b7 => (Zb.l0 k x0 b7 x6 x7 (wrap64 (x8 + 1))))))
end
def Zb.f (k : Nat) (l0 : List (Yv)) : Option (Bool) := Zb.l0 k l0 false l0 (l0.length : Int) 0
set_option maxHeartbeats 8000000 in
set_option maxRecDepth 100000 in
theorem Zb.calls (k : Nat) (A0 : Option Addr) (c0 : Nat) (l0 : List (Yv)) (r : Bool) (w : World) (hr0 : Kd.C Je w A0 l0.length l0) (hc0 : l0.length ≤ c0) (h : Zb.f k l0 = some r) :
  Calls Try.prog 70 #[.slice A0 l0.length c0] w fun e w' => e = .returned (.bool r) ∧ Below w.heap.size w w' := by
 have hu120 := Try.underlying120; have hu116 := Try.underlying116; have HR0 := Qa.mk hr0; have HC0 := Qa.mk hc0; clear hr0 hc0; have HB := Qa.mk (Below.refl w.heap.size w); have H : (Zb.l0 k l0 false l0 (l0.length : Int) 0) = some r := h; clear h; have H' := Qa.mk H; clear H
 go_enter Try.func70, Try.ntmps70
 go_wp2
 go_loopg [3, 8] k (fun kq v3 v8 w' => ∃ (a5 : Bool) (a0 : Int), v3 = .bool a5 ∧ v8 = .int .i64 a0 ∧ Qa (Zb.l0 kq l0 a5 l0 (l0.length : Int) a0 = some r) ∧ Qa (kq ≤ k) ∧ Qa (Below w.heap.size w w'))
 case atStart => exact ⟨(false), (0), sm_, sm_, H', ⟨Nat.le_refl _⟩, ⟨bw_⟩⟩
 case round =>
  clear H'; obtain ⟨a5, a0, rfl, rfl, HA, HK1, HB⟩ := hrel
  cases gk with
  | zero => exact absurd HA.out (by simp [Zb.l0])
  | succ k1 =>
   have H := HA.out; clear HA
   simp only [Zb.l0] at H
   by_cases c2 : a0 < (l0.length : Int)
   ·rw [if_pos c2] at H
    have n6 : decide (a0 < (l0.length : Int)) = true := decide_eq_true c2; clear c2
    by_cases c3 : 0 ≤ a0
    ·rw [if_pos c3] at H
     have p8 : decide (0 ≤ a0) = true := decide_eq_true c3; clear c3
     by_cases c4 : a0 < (l0.length : Int)
     ·rw [if_pos c4] at H
      have p9 : decide (a0 < (l0.length : Int)) = true := decide_eq_true c4; clear c4; have HC5 := Qa.mk H; clear H; have e4 : 0 ≤ (a0 : Int) := of_decide_eq_true Zx; have e5 : a0 < (l0.length : Int) := of_decide_eq_true Zx; obtain ⟨O0, r1, b9, d0, d3, d4, d5, d6, d7, d8, d9⟩ := Ky HR0.out a0 e4 e5
      cases r1; replace b9 := Qg HB.out b9; replace d0 := Qg HB.out d0; replace d3 := Qg HB.out d3; replace d4 := Qg HB.out d4; replace d5 := Qg HB.out d5; replace d6 := Qg HB.out d6; replace d7 := Qg HB.out d7; replace d8 := Qg HB.out d8; replace d9 := Qg HB.out d9; replace e4 := eq_true e4; replace e5 := eq_true e5
      go_upto_region 5 with (first | ((with_reducible refine Zd (N := 5) rfl ?_); (try (refine Xq (by rfl) ?_; dsimp only)); refine Zc ?hg (N := 5) ?hd (cs := #[.string (⟨#[]⟩ : ByteArray), .string (⟨#[]⟩ : ByteArray), .string (⟨#[]⟩ : ByteArray), .bool false, .string (⟨#[]⟩ : ByteArray), .string (⟨#[]⟩ : ByteArray), .string (⟨#[]⟩ : ByteArray), .string (⟨#[]⟩ : ByteArray), .bool false]) (t := 120) ?hr ?_; (case hd => rfl); (case hg => rfl); (case hr => first | (go_simp; done) | (go_simp; rfl)); intro a2 hg w6 hbox hb; have n0_ := Qa.mk (Qj bw_ hb); have n1_ := Qa.mk (hbox); have n2_ := Qa.mk ((gw_ hg : w.heap.size ≤ a2)); have n3_ := Qa.mk ((gw_ hg : w.heap.size ≤ a2)); clear HB; have HB := n0_; have a1 := n1_; have O1 := n2_; have GE102 := n3_; clear n0_ n1_ n2_ n3_; clear hb hbox hg; obtain ⟨l8, l9, m0, m1, m2, m3, m4, m5, m6⟩ := Ju a1.out; obtain ⟨m7, m8, m9, n0, n1, n2, n3, n4, n5⟩ := Jv a1.out))
      (try simp only [Act.put, sA_, sB_, sC_])
      go_cut [13] (fun v13 wc => ∃ (kq : Nat) (e3 : Bool), v13 = .bool e3 ∧ Qa (Zb.j1 kq l0 a5 a0 l0 (l0.length : Int) a0 e3 ((Qb l0 a0).f0.f0) ((Qb l0 a0).f0.f1) ((Qb l0 a0).f0.f2) ((Qb l0 a0).f1) ((Qb l0 a0).f2) ((Qb l0 a0).f3) ((Qb l0 a0).f4) ((Qb l0 a0).f5) ((Qb l0 a0).f6) = some r) ∧ Qa (kq ≤ k1) ∧ Qa (wc.heap[a2]? = some (.cells #[.string ((Qb l0 a0).f0.f0), .string ((Qb l0 a0).f0.f1), .string ((Qb l0 a0).f0.f2), .bool ((Qb l0 a0).f1), .string ((Qb l0 a0).f2), .string ((Qb l0 a0).f3), .string ((Qb l0 a0).f4), .string ((Qb l0 a0).f5), .bool ((Qb l0 a0).f6)] 120 (0, 0))) ∧ Qa (Below w.heap.size w wc))
      case first =>
       have H := HC5.out; clear HC5; replace H := Option.bind_eq_some_iff.mp H; obtain ⟨l7, A80, H⟩ := H; replace H : (if l7 = true then (Zb.j1 k1 l0 a5 a0 l0 (l0.length : Int) a0 false ((Qb l0 a0).f0.f0) ((Qb l0 a0).f0.f1) ((Qb l0 a0).f0.f2) ((Qb l0 a0).f1) ((Qb l0 a0).f2) ((Qb l0 a0).f3) ((Qb l0 a0).f4) ((Qb l0 a0).f5) ((Qb l0 a0).f6)) else ((Vh.f ((Qb l0 a0).f0.f0) ((Qb l0 a0).f0.f1) ((Qb l0 a0).f0.f2) ((Qb l0 a0).f1) ((Qb l0 a0).f2) ((Qb l0 a0).f3) ((Qb l0 a0).f4) ((Qb l0 a0).f5) ((Qb l0 a0).f6)).bind fun b8 => (Zb.j1 k1 l0 a5 a0 l0 (l0.length : Int) a0 (!b8) ((Qb l0 a0).f0.f0) ((Qb l0 a0).f0.f1) ((Qb l0 a0).f0.f2) ((Qb l0 a0).f1) ((Qb l0 a0).f2) ((Qb l0 a0).f3) ((Qb l0 a0).f4) ((Qb l0 a0).f5) ((Qb l0 a0).f6)))) = some r := H; have A8 := Qa.mk A80; clear A80
       by_cases c9 : l7 = true
       ·subst c9
        have H1 : (Zb.j1 k1 l0 a5 a0 l0 (l0.length : Int) a0 false ((Qb l0 a0).f0.f0) ((Qb l0 a0).f0.f1) ((Qb l0 a0).f0.f2) ((Qb l0 a0).f1) ((Qb l0 a0).f2) ((Qb l0 a0).f3) ((Qb l0 a0).f4) ((Qb l0 a0).f5) ((Qb l0 a0).f6)) = some r := by rw [if_pos rfl] at H; exact H
        clear H; have H := H1; clear H1; have H' := Qa.mk H; clear H; have e6 : w6.cell? ⟨a2, 0, none⟩ = some (.string (⟨#[]⟩ : ByteArray)) := (Qc a1.out 0).trans rfl; have e7 : w6.cell? ⟨a2, 1, none⟩ = some (.string (⟨#[]⟩ : ByteArray)) := (Qc a1.out 1).trans rfl; have e8 : w6.cell? ⟨a2, 2, none⟩ = some (.string (⟨#[]⟩ : ByteArray)) := (Qc a1.out 2).trans rfl; have e9 : w6.cell? ⟨a2, 3, none⟩ = some (.bool false) := (Qc a1.out 3).trans rfl; have f7 : w6.cell? ⟨a2, 4, none⟩ = some (.string (⟨#[]⟩ : ByteArray)) := (Qc a1.out 4).trans rfl; have f8 : w6.cell? ⟨a2, 5, none⟩ = some (.string (⟨#[]⟩ : ByteArray)) := (Qc a1.out 5).trans rfl; have f9 : w6.cell? ⟨a2, 6, none⟩ = some (.string (⟨#[]⟩ : ByteArray)) := (Qc a1.out 6).trans rfl; have g0 : w6.cell? ⟨a2, 7, none⟩ = some (.string (⟨#[]⟩ : ByteArray)) := (Qc a1.out 7).trans rfl; have g1 : w6.cell? ⟨a2, 8, none⟩ = some (.bool false) := (Qc a1.out 8).trans rfl; have g2 := Qe a1.out 0; have g3 := Qe a1.out 1; have g4 := Qe a1.out 2; have g5 := Qe a1.out 3; have g6 := Qe a1.out 4; have g7 := Qe a1.out 5; have g8 := Qe a1.out 6; have g9 := Qe a1.out 7; have h0 := Qe a1.out 8; go_wp2_with (first | ((with_reducible refine Xo (f := 114) rfl ?_); refine Vb (some 15) rfl rfl Try.func114 (by kernel_rfl) rfl #[.agg #[.string ((Qb l0 a0).f0.f0), .string ((Qb l0 a0).f0.f1), .string ((Qb l0 a0).f0.f2), .bool ((Qb l0 a0).f1), .string ((Qb l0 a0).f2), .string ((Qb l0 a0).f3), .string ((Qb l0 a0).f4), .string ((Qb l0 a0).f5), .bool ((Qb l0 a0).f6)]] rfl (by (try simp only [List.map_toArray, List.map_cons, List.map_nil]); first | done | rfl | (simp only [List.length_drop, List.length_take]; rfl)) ?_; (with_reducible refine (Zv.calls ((Qb l0 a0).f0.f0) ((Qb l0 a0).f0.f1) ((Qb l0 a0).f0.f2) ((Qb l0 a0).f1) ((Qb l0 a0).f2) ((Qb l0 a0).f3) ((Qb l0 a0).f4) ((Qb l0 a0).f5) ((Qb l0 a0).f6) true _ A8.out).mono ?_); rintro e w11 ⟨rfl, hb⟩; refine ⟨_, rfl, ?_⟩; have n0_ := Qa.mk (Qq (g := a2) (o := .cells #[.string ((Qb l0 a0).f0.f0), .string ((Qb l0 a0).f0.f1), .string ((Qb l0 a0).f0.f2), .bool ((Qb l0 a0).f1), .string ((Qb l0 a0).f2), .string ((Qb l0 a0).f3), .string ((Qb l0 a0).f4), .string ((Qb l0 a0).f5), .bool ((Qb l0 a0).f6)] 120 (0, 0)) (by (with_reducible repeat (first | refine Qn ?_ _ | refine Qp ?_ | refine Ql ?_ _)); refine Za (cs := #[.string ((Qb l0 a0).f0.f0), .string ((Qb l0 a0).f0.f1), .string ((Qb l0 a0).f0.f2), .bool ((Qb l0 a0).f1), .string ((Qb l0 a0).f2), .string ((Qb l0 a0).f3), .string ((Qb l0 a0).f4), .string ((Qb l0 a0).f5), .bool false]) ?_ 8 _ rfl; (with_reducible repeat (first | refine Qn ?_ _ | refine Qp ?_ | refine Ql ?_ _)); refine Za (cs := #[.string ((Qb l0 a0).f0.f0), .string ((Qb l0 a0).f0.f1), .string ((Qb l0 a0).f0.f2), .bool ((Qb l0 a0).f1), .string ((Qb l0 a0).f2), .string ((Qb l0 a0).f3), .string ((Qb l0 a0).f4), .string (⟨#[]⟩ : ByteArray), .bool false]) ?_ 7 _ rfl; (with_reducible repeat (first | refine Qn ?_ _ | refine Qp ?_ | refine Ql ?_ _)); refine Za (cs := #[.string ((Qb l0 a0).f0.f0), .string ((Qb l0 a0).f0.f1), .string ((Qb l0 a0).f0.f2), .bool ((Qb l0 a0).f1), .string ((Qb l0 a0).f2), .string ((Qb l0 a0).f3), .string (⟨#[]⟩ : ByteArray), .string (⟨#[]⟩ : ByteArray), .bool false]) ?_ 6 _ rfl; (with_reducible repeat (first | refine Qn ?_ _ | refine Qp ?_ | refine Ql ?_ _)); refine Za (cs := #[.string ((Qb l0 a0).f0.f0), .string ((Qb l0 a0).f0.f1), .string ((Qb l0 a0).f0.f2), .bool ((Qb l0 a0).f1), .string ((Qb l0 a0).f2), .string (⟨#[]⟩ : ByteArray), .string (⟨#[]⟩ : ByteArray), .string (⟨#[]⟩ : ByteArray), .bool false]) ?_ 5 _ rfl; (with_reducible repeat (first | refine Qn ?_ _ | refine Qp ?_ | refine Ql ?_ _)); refine Za (cs := #[.string ((Qb l0 a0).f0.f0), .string ((Qb l0 a0).f0.f1), .string ((Qb l0 a0).f0.f2), .bool ((Qb l0 a0).f1), .string (⟨#[]⟩ : ByteArray), .string (⟨#[]⟩ : ByteArray), .string (⟨#[]⟩ : ByteArray), .string (⟨#[]⟩ : ByteArray), .bool false]) ?_ 4 _ rfl; (with_reducible repeat (first | refine Qn ?_ _ | refine Qp ?_ | refine Ql ?_ _)); refine Za (cs := #[.string ((Qb l0 a0).f0.f0), .string ((Qb l0 a0).f0.f1), .string ((Qb l0 a0).f0.f2), .bool false, .string (⟨#[]⟩ : ByteArray), .string (⟨#[]⟩ : ByteArray), .string (⟨#[]⟩ : ByteArray), .string (⟨#[]⟩ : ByteArray), .bool false]) ?_ 3 _ rfl; (with_reducible repeat (first | refine Qn ?_ _ | refine Qp ?_ | refine Ql ?_ _)); refine Za (cs := #[.string ((Qb l0 a0).f0.f0), .string ((Qb l0 a0).f0.f1), .string (⟨#[]⟩ : ByteArray), .bool false, .string (⟨#[]⟩ : ByteArray), .string (⟨#[]⟩ : ByteArray), .string (⟨#[]⟩ : ByteArray), .string (⟨#[]⟩ : ByteArray), .bool false]) ?_ 2 _ rfl; (with_reducible repeat (first | refine Qn ?_ _ | refine Qp ?_ | refine Ql ?_ _)); refine Za (cs := #[.string ((Qb l0 a0).f0.f0), .string (⟨#[]⟩ : ByteArray), .string (⟨#[]⟩ : ByteArray), .bool false, .string (⟨#[]⟩ : ByteArray), .string (⟨#[]⟩ : ByteArray), .string (⟨#[]⟩ : ByteArray), .string (⟨#[]⟩ : ByteArray), .bool false]) ?_ 1 _ rfl; (with_reducible repeat (first | refine Qn ?_ _ | refine Qp ?_ | refine Ql ?_ _)); refine Za (cs := #[.string (⟨#[]⟩ : ByteArray), .string (⟨#[]⟩ : ByteArray), .string (⟨#[]⟩ : ByteArray), .bool false, .string (⟨#[]⟩ : ByteArray), .string (⟨#[]⟩ : ByteArray), .string (⟨#[]⟩ : ByteArray), .string (⟨#[]⟩ : ByteArray), .bool false]) ?_ 0 _ rfl; (with_reducible repeat (first | refine Qn ?_ _ | refine Qp ?_ | refine Ql ?_ _)); exact a1.out) hb); have n1_ := Qa.mk (Qj bw_ hb); clear a1; clear HB; have a1 := n0_; have HB := n1_; clear n0_ n1_; (try clear hb); (try clear hb2); (try clear hk); (try clear hi)))
        go_meet
        case rel => exact ⟨_, (false), sm_, H', ⟨by have := HK1.out; first | omega | exact Nat.le_refl _⟩, ⟨by (with_reducible repeat (first | refine Qn ?_ _ | refine Qp ?_ | refine Ql ?_ _)); exact a1.out⟩, ⟨bw_⟩⟩
       ·replace c9 := Bool.eq_false_iff.mpr c9
        subst c9
        have H1 : ((Vh.f ((Qb l0 a0).f0.f0) ((Qb l0 a0).f0.f1) ((Qb l0 a0).f0.f2) ((Qb l0 a0).f1) ((Qb l0 a0).f2) ((Qb l0 a0).f3) ((Qb l0 a0).f4) ((Qb l0 a0).f5) ((Qb l0 a0).f6)).bind fun b8 => (Zb.j1 k1 l0 a5 a0 l0 (l0.length : Int) a0 (!b8) ((Qb l0 a0).f0.f0) ((Qb l0 a0).f0.f1) ((Qb l0 a0).f0.f2) ((Qb l0 a0).f1) ((Qb l0 a0).f2) ((Qb l0 a0).f3) ((Qb l0 a0).f4) ((Qb l0 a0).f5) ((Qb l0 a0).f6))) = some r := by rw [if_neg (show ¬ (false = true) by decide)] at H; exact H
        clear H; have H := H1; clear H1; replace H := Option.bind_eq_some_iff.mp H; obtain ⟨b8, q0, H⟩ := H; replace H : (Zb.j1 k1 l0 a5 a0 l0 (l0.length : Int) a0 (!b8) ((Qb l0 a0).f0.f0) ((Qb l0 a0).f0.f1) ((Qb l0 a0).f0.f2) ((Qb l0 a0).f1) ((Qb l0 a0).f2) ((Qb l0 a0).f3) ((Qb l0 a0).f4) ((Qb l0 a0).f5) ((Qb l0 a0).f6)) = some r := H; have A12 := Qa.mk q0; clear q0; have H' := Qa.mk H; clear H; have h2 : w6.cell? ⟨a2, 0, none⟩ = some (.string (⟨#[]⟩ : ByteArray)) := (Qc a1.out 0).trans rfl; have h3 : w6.cell? ⟨a2, 1, none⟩ = some (.string (⟨#[]⟩ : ByteArray)) := (Qc a1.out 1).trans rfl; have h4 : w6.cell? ⟨a2, 2, none⟩ = some (.string (⟨#[]⟩ : ByteArray)) := (Qc a1.out 2).trans rfl; have h5 : w6.cell? ⟨a2, 3, none⟩ = some (.bool false) := (Qc a1.out 3).trans rfl; have h6 : w6.cell? ⟨a2, 4, none⟩ = some (.string (⟨#[]⟩ : ByteArray)) := (Qc a1.out 4).trans rfl; have h7 : w6.cell? ⟨a2, 5, none⟩ = some (.string (⟨#[]⟩ : ByteArray)) := (Qc a1.out 5).trans rfl; have h8 : w6.cell? ⟨a2, 6, none⟩ = some (.string (⟨#[]⟩ : ByteArray)) := (Qc a1.out 6).trans rfl; have h9 : w6.cell? ⟨a2, 7, none⟩ = some (.string (⟨#[]⟩ : ByteArray)) := (Qc a1.out 7).trans rfl; have i0 : w6.cell? ⟨a2, 8, none⟩ = some (.bool false) := (Qc a1.out 8).trans rfl; have i1 := Qe a1.out 0; have i2 := Qe a1.out 1; have i3 := Qe a1.out 2; have i4 := Qe a1.out 3; have i5 := Qe a1.out 4; have i6 := Qe a1.out 5; have i7 := Qe a1.out 6; have i8 := Qe a1.out 7; have i9 := Qe a1.out 8; go_wp2_with (first | ((with_reducible refine Xo (f := 114) rfl ?_); refine Vb (some 15) rfl rfl Try.func114 (by kernel_rfl) rfl #[.agg #[.string ((Qb l0 a0).f0.f0), .string ((Qb l0 a0).f0.f1), .string ((Qb l0 a0).f0.f2), .bool ((Qb l0 a0).f1), .string ((Qb l0 a0).f2), .string ((Qb l0 a0).f3), .string ((Qb l0 a0).f4), .string ((Qb l0 a0).f5), .bool ((Qb l0 a0).f6)]] rfl (by (try simp only [List.map_toArray, List.map_cons, List.map_nil]); first | done | rfl | (simp only [List.length_drop, List.length_take]; rfl)) ?_; (with_reducible refine (Zv.calls ((Qb l0 a0).f0.f0) ((Qb l0 a0).f0.f1) ((Qb l0 a0).f0.f2) ((Qb l0 a0).f1) ((Qb l0 a0).f2) ((Qb l0 a0).f3) ((Qb l0 a0).f4) ((Qb l0 a0).f5) ((Qb l0 a0).f6) false _ A8.out).mono ?_); rintro e w14 ⟨rfl, hb⟩; refine ⟨_, rfl, ?_⟩; have n0_ := Qa.mk (Qq (g := a2) (o := .cells #[.string ((Qb l0 a0).f0.f0), .string ((Qb l0 a0).f0.f1), .string ((Qb l0 a0).f0.f2), .bool ((Qb l0 a0).f1), .string ((Qb l0 a0).f2), .string ((Qb l0 a0).f3), .string ((Qb l0 a0).f4), .string ((Qb l0 a0).f5), .bool ((Qb l0 a0).f6)] 120 (0, 0)) (by (with_reducible repeat (first | refine Qn ?_ _ | refine Qp ?_ | refine Ql ?_ _)); refine Za (cs := #[.string ((Qb l0 a0).f0.f0), .string ((Qb l0 a0).f0.f1), .string ((Qb l0 a0).f0.f2), .bool ((Qb l0 a0).f1), .string ((Qb l0 a0).f2), .string ((Qb l0 a0).f3), .string ((Qb l0 a0).f4), .string ((Qb l0 a0).f5), .bool false]) ?_ 8 _ rfl; (with_reducible repeat (first | refine Qn ?_ _ | refine Qp ?_ | refine Ql ?_ _)); refine Za (cs := #[.string ((Qb l0 a0).f0.f0), .string ((Qb l0 a0).f0.f1), .string ((Qb l0 a0).f0.f2), .bool ((Qb l0 a0).f1), .string ((Qb l0 a0).f2), .string ((Qb l0 a0).f3), .string ((Qb l0 a0).f4), .string (⟨#[]⟩ : ByteArray), .bool false]) ?_ 7 _ rfl; (with_reducible repeat (first | refine Qn ?_ _ | refine Qp ?_ | refine Ql ?_ _)); refine Za (cs := #[.string ((Qb l0 a0).f0.f0), .string ((Qb l0 a0).f0.f1), .string ((Qb l0 a0).f0.f2), .bool ((Qb l0 a0).f1), .string ((Qb l0 a0).f2), .string ((Qb l0 a0).f3), .string (⟨#[]⟩ : ByteArray), .string (⟨#[]⟩ : ByteArray), .bool false]) ?_ 6 _ rfl; (with_reducible repeat (first | refine Qn ?_ _ | refine Qp ?_ | refine Ql ?_ _)); refine Za (cs := #[.string ((Qb l0 a0).f0.f0), .string ((Qb l0 a0).f0.f1), .string ((Qb l0 a0).f0.f2), .bool ((Qb l0 a0).f1), .string ((Qb l0 a0).f2), .string (⟨#[]⟩ : ByteArray), .string (⟨#[]⟩ : ByteArray), .string (⟨#[]⟩ : ByteArray), .bool false]) ?_ 5 _ rfl; (with_reducible repeat (first | refine Qn ?_ _ | refine Qp ?_ | refine Ql ?_ _)); refine Za (cs := #[.string ((Qb l0 a0).f0.f0), .string ((Qb l0 a0).f0.f1), .string ((Qb l0 a0).f0.f2), .bool ((Qb l0 a0).f1), .string (⟨#[]⟩ : ByteArray), .string (⟨#[]⟩ : ByteArray), .string (⟨#[]⟩ : ByteArray), .string (⟨#[]⟩ : ByteArray), .bool false]) ?_ 4 _ rfl; (with_reducible repeat (first | refine Qn ?_ _ | refine Qp ?_ | refine Ql ?_ _)); refine Za (cs := #[.string ((Qb l0 a0).f0.f0), .string ((Qb l0 a0).f0.f1), .string ((Qb l0 a0).f0.f2), .bool false, .string (⟨#[]⟩ : ByteArray), .string (⟨#[]⟩ : ByteArray), .string (⟨#[]⟩ : ByteArray), .string (⟨#[]⟩ : ByteArray), .bool false]) ?_ 3 _ rfl; (with_reducible repeat (first | refine Qn ?_ _ | refine Qp ?_ | refine Ql ?_ _)); refine Za (cs := #[.string ((Qb l0 a0).f0.f0), .string ((Qb l0 a0).f0.f1), .string (⟨#[]⟩ : ByteArray), .bool false, .string (⟨#[]⟩ : ByteArray), .string (⟨#[]⟩ : ByteArray), .string (⟨#[]⟩ : ByteArray), .string (⟨#[]⟩ : ByteArray), .bool false]) ?_ 2 _ rfl; (with_reducible repeat (first | refine Qn ?_ _ | refine Qp ?_ | refine Ql ?_ _)); refine Za (cs := #[.string ((Qb l0 a0).f0.f0), .string (⟨#[]⟩ : ByteArray), .string (⟨#[]⟩ : ByteArray), .bool false, .string (⟨#[]⟩ : ByteArray), .string (⟨#[]⟩ : ByteArray), .string (⟨#[]⟩ : ByteArray), .string (⟨#[]⟩ : ByteArray), .bool false]) ?_ 1 _ rfl; (with_reducible repeat (first | refine Qn ?_ _ | refine Qp ?_ | refine Ql ?_ _)); refine Za (cs := #[.string (⟨#[]⟩ : ByteArray), .string (⟨#[]⟩ : ByteArray), .string (⟨#[]⟩ : ByteArray), .bool false, .string (⟨#[]⟩ : ByteArray), .string (⟨#[]⟩ : ByteArray), .string (⟨#[]⟩ : ByteArray), .string (⟨#[]⟩ : ByteArray), .bool false]) ?_ 0 _ rfl; (with_reducible repeat (first | refine Qn ?_ _ | refine Qp ?_ | refine Ql ?_ _)); exact a1.out) hb); have n1_ := Qa.mk (Qj bw_ hb); clear a1; clear HB; have a1 := n0_; have HB := n1_; clear n0_ n1_; (try clear hb); (try clear hb2); (try clear hk); (try clear hi); obtain ⟨j3, j5, j7, j8, j9, k0, k2, k3, k4⟩ := Ju a1.out; obtain ⟨k5, k6, k7, k8, k9, l3, l4, l5, l6⟩ := Jv a1.out) | (go_at_call 115; (with_reducible refine (Vh.calls ((Qb l0 a0).f0.f0) ((Qb l0 a0).f0.f1) ((Qb l0 a0).f0.f2) ((Qb l0 a0).f1) ((Qb l0 a0).f2) ((Qb l0 a0).f3) ((Qb l0 a0).f4) ((Qb l0 a0).f5) ((Qb l0 a0).f6) b8 _ A12.out).mono ?_); rintro e w16 ⟨rfl, hb⟩; have n0_ := Qa.mk (Qq (g := a2) (o := .cells #[.string ((Qb l0 a0).f0.f0), .string ((Qb l0 a0).f0.f1), .string ((Qb l0 a0).f0.f2), .bool ((Qb l0 a0).f1), .string ((Qb l0 a0).f2), .string ((Qb l0 a0).f3), .string ((Qb l0 a0).f4), .string ((Qb l0 a0).f5), .bool ((Qb l0 a0).f6)] 120 (0, 0)) (bk_ a1.out) hb); have n1_ := Qa.mk (Qj bw_ hb); clear a1; clear HB; have a1 := n0_; have HB := n1_; clear n0_ n1_; (try clear hb); (try clear hb2); (try clear hk); (try clear hi)))
        go_meet
        case rel => exact ⟨_, (!b8), sm_, H', ⟨by have := HK1.out; first | omega | exact Nat.le_refl _⟩, ⟨by (with_reducible repeat (first | refine Qn ?_ _ | refine Qp ?_ | refine Ql ?_ _)); exact a1.out⟩, ⟨bw_⟩⟩
      case rest =>
       clear HC5
       try clear c1
       try clear p1
       try clear q1
       try clear hx1
       try clear c2
       try clear n6
       try clear p2
       try clear c3
       try clear p8
       try clear c4
       try clear p9
       try clear c7
       try clear c9
       try clear p10
       try clear q10
       try clear r2
       try clear c11
       try clear e6
       try clear e7
       try clear e8
       try clear e9
       try clear f7
       try clear f8
       try clear f9
       try clear g0
       try clear g1
       try clear h2
       try clear h3
       try clear h4
       try clear h5
       try clear h6
       try clear h7
       try clear h8
       try clear h9
       try clear i0
       try clear j3
       try clear j5
       try clear j7
       try clear j8
       try clear j9
       try clear k0
       try clear k2
       try clear k3
       try clear k4
       try clear l8
       try clear l9
       try clear m0
       try clear m1
       try clear m2
       try clear m3
       try clear m4
       try clear m5
       try clear m6
       try clear g2
       try clear g3
       try clear g4
       try clear g5
       try clear g6
       try clear g7
       try clear g8
       try clear g9
       try clear h0
       try clear i1
       try clear i2
       try clear i3
       try clear i4
       try clear i5
       try clear i6
       try clear i7
       try clear i8
       try clear i9
       try clear k5
       try clear k6
       try clear k7
       try clear k8
       try clear k9
       try clear l3
       try clear l4
       try clear l5
       try clear l6
       try clear m7
       try clear m8
       try clear m9
       try clear n0
       try clear n1
       try clear n2
       try clear n3
       try clear n4
       try clear n5
       try clear b9
       try clear d0
       try clear d3
       try clear d4
       try clear d5
       try clear d6
       try clear d7
       try clear d8
       try clear d9
       try clear e4
       try clear e5
       obtain ⟨kq, e3, rfl, HA, HJ4, a1, HB⟩ := hcut
       cases kq with
       | zero => exact absurd HA.out (by simp [Zb.j1])
       | succ kj4 =>
        have H := HA.out; clear HA
        simp only [Zb.j1] at H
        have n7 := Qa.mk H; clear H
        go_upto_if 13 with (fail)
        go_cut [13] (fun v13 wc => ∃ (kq : Nat) (e1 : Bool), v13 = .bool e1 ∧ Qa (Zb.j2 kq l0 a5 a0 l0 (l0.length : Int) a0 e1 ((Qb l0 a0).f0.f0) ((Qb l0 a0).f0.f1) ((Qb l0 a0).f0.f2) ((Qb l0 a0).f1) ((Qb l0 a0).f2) ((Qb l0 a0).f3) ((Qb l0 a0).f4) ((Qb l0 a0).f5) ((Qb l0 a0).f6) = some r) ∧ Qa (kq ≤ kj4) ∧ Qa (wc.heap[a2]? = some (.cells #[.string ((Qb l0 a0).f0.f0), .string ((Qb l0 a0).f0.f1), .string ((Qb l0 a0).f0.f2), .bool ((Qb l0 a0).f1), .string ((Qb l0 a0).f2), .string ((Qb l0 a0).f3), .string ((Qb l0 a0).f4), .string ((Qb l0 a0).f5), .bool ((Qb l0 a0).f6)] 120 (0, 0))) ∧ Qa (Below w.heap.size w wc))
        case first =>
         have H := n7.out; clear n7
         by_cases c18 : e3 = true
         ·subst c18
          have H1 : (Zb.j2 kj4 l0 a5 a0 l0 (l0.length : Int) a0 true ((Qb l0 a0).f0.f0) ((Qb l0 a0).f0.f1) ((Qb l0 a0).f0.f2) ((Qb l0 a0).f1) ((Qb l0 a0).f2) ((Qb l0 a0).f3) ((Qb l0 a0).f4) ((Qb l0 a0).f5) ((Qb l0 a0).f6)) = some r := by rw [if_pos rfl] at H; exact H
          clear H; have H := H1; clear H1; have H' := Qa.mk H; clear H
          go_wp2
          go_meet
          case rel => exact ⟨_, (true), sm_, H', ⟨by have := HK1.out; have := HJ4.out; first | omega | exact Nat.le_refl _⟩, ⟨by (with_reducible repeat (first | refine Qn ?_ _ | refine Qp ?_ | refine Ql ?_ _)); exact a1.out⟩, ⟨bw_⟩⟩
         ·replace c18 := Bool.eq_false_iff.mpr c18
          subst c18
          have H1 : ((Xt.f kj4 ((Qb l0 a0).f0.f0) ((Qb l0 a0).f0.f1) ((Qb l0 a0).f0.f2)).bind fun e0 => (Zb.j2 kj4 l0 a5 a0 l0 (l0.length : Int) a0 (!e0) ((Qb l0 a0).f0.f0) ((Qb l0 a0).f0.f1) ((Qb l0 a0).f0.f2) ((Qb l0 a0).f1) ((Qb l0 a0).f2) ((Qb l0 a0).f3) ((Qb l0 a0).f4) ((Qb l0 a0).f5) ((Qb l0 a0).f6))) = some r := by rw [if_neg (show ¬ (false = true) by decide)] at H; exact H
          clear H; have H := H1; clear H1; replace H := Option.bind_eq_some_iff.mp H; obtain ⟨e0, q2, H⟩ := H; replace H : (Zb.j2 kj4 l0 a5 a0 l0 (l0.length : Int) a0 (!e0) ((Qb l0 a0).f0.f0) ((Qb l0 a0).f0.f1) ((Qb l0 a0).f0.f2) ((Qb l0 a0).f1) ((Qb l0 a0).f2) ((Qb l0 a0).f3) ((Qb l0 a0).f4) ((Qb l0 a0).f5) ((Qb l0 a0).f6)) = some r := H; have A19 := Qa.mk q2; clear q2; have H' := Qa.mk H; clear H; have n8 : wc.cell? ⟨a2, 0, none⟩ = some (.string ((Qb l0 a0).f0.f0)) := (Qc a1.out 0).trans rfl; have n9 : wc.cell? ⟨a2, 1, none⟩ = some (.string ((Qb l0 a0).f0.f1)) := (Qc a1.out 1).trans rfl; have o0 : wc.cell? ⟨a2, 2, none⟩ = some (.string ((Qb l0 a0).f0.f2)) := (Qc a1.out 2).trans rfl; have o1 : wc.cell? ⟨a2, 3, none⟩ = some (.bool ((Qb l0 a0).f1)) := (Qc a1.out 3).trans rfl; have o2 : wc.cell? ⟨a2, 4, none⟩ = some (.string ((Qb l0 a0).f2)) := (Qc a1.out 4).trans rfl; have o3 : wc.cell? ⟨a2, 5, none⟩ = some (.string ((Qb l0 a0).f3)) := (Qc a1.out 5).trans rfl; have o4 : wc.cell? ⟨a2, 6, none⟩ = some (.string ((Qb l0 a0).f4)) := (Qc a1.out 6).trans rfl; have o5 : wc.cell? ⟨a2, 7, none⟩ = some (.string ((Qb l0 a0).f5)) := (Qc a1.out 7).trans rfl; have o6 : wc.cell? ⟨a2, 8, none⟩ = some (.bool ((Qb l0 a0).f6)) := (Qc a1.out 8).trans rfl; have o7 := Qe a1.out 0; have o8 := Qe a1.out 1; have o9 := Qe a1.out 2; have p0 := Qe a1.out 3; have p3 := Qe a1.out 4; have p4 := Qe a1.out 5; have p5 := Qe a1.out 6; have p6 := Qe a1.out 7; have p7 := Qe a1.out 8; go_wp2_with (first | ((with_reducible refine Xo (f := 116) rfl ?_); refine Vb (some 24) rfl rfl Try.func116 (by kernel_rfl) rfl #[.agg #[.string ((Qb l0 a0).f0.f0), .string ((Qb l0 a0).f0.f1), .string ((Qb l0 a0).f0.f2)]] rfl (by (try simp only [List.map_toArray, List.map_cons, List.map_nil]); first | done | rfl | (simp only [List.length_drop, List.length_take]; rfl)) ?_; (with_reducible refine (Xt.calls kj4 ((Qb l0 a0).f0.f0) ((Qb l0 a0).f0.f1) ((Qb l0 a0).f0.f2) e0 _ A19.out).mono ?_); rintro e w21 ⟨rfl, hb⟩; refine ⟨_, rfl, ?_⟩; have n0_ := Qa.mk (Qq (g := a2) (o := .cells #[.string ((Qb l0 a0).f0.f0), .string ((Qb l0 a0).f0.f1), .string ((Qb l0 a0).f0.f2), .bool ((Qb l0 a0).f1), .string ((Qb l0 a0).f2), .string ((Qb l0 a0).f3), .string ((Qb l0 a0).f4), .string ((Qb l0 a0).f5), .bool ((Qb l0 a0).f6)] 120 (0, 0)) (bk_ a1.out) hb); have n1_ := Qa.mk (Qj bw_ hb); clear a1; clear HB; have a1 := n0_; have HB := n1_; clear n0_ n1_; (try clear hb); (try clear hb2); (try clear hk); (try clear hi)))
          go_meet
          case rel => exact ⟨_, (!e0), sm_, H', ⟨by have := HK1.out; have := HJ4.out; first | omega | exact Nat.le_refl _⟩, ⟨by (with_reducible repeat (first | refine Qn ?_ _ | refine Qp ?_ | refine Ql ?_ _)); exact a1.out⟩, ⟨bw_⟩⟩
        case rest =>
         clear n7
         try clear c1
         try clear p1
         try clear q1
         try clear hx1
         try clear c2
         try clear n6
         try clear p2
         try clear c3
         try clear p8
         try clear c4
         try clear p9
         try clear c7
         try clear c9
         try clear p10
         try clear q10
         try clear r2
         try clear c11
         try clear c18
         try clear e6
         try clear e7
         try clear e8
         try clear e9
         try clear f7
         try clear f8
         try clear f9
         try clear g0
         try clear g1
         try clear h2
         try clear h3
         try clear h4
         try clear h5
         try clear h6
         try clear h7
         try clear h8
         try clear h9
         try clear i0
         try clear j3
         try clear j5
         try clear j7
         try clear j8
         try clear j9
         try clear k0
         try clear k2
         try clear k3
         try clear k4
         try clear n8
         try clear n9
         try clear o0
         try clear o1
         try clear o2
         try clear o3
         try clear o4
         try clear o5
         try clear o6
         try clear l8
         try clear l9
         try clear m0
         try clear m1
         try clear m2
         try clear m3
         try clear m4
         try clear m5
         try clear m6
         try clear g2
         try clear g3
         try clear g4
         try clear g5
         try clear g6
         try clear g7
         try clear g8
         try clear g9
         try clear h0
         try clear i1
         try clear i2
         try clear i3
         try clear i4
         try clear i5
         try clear i6
         try clear i7
         try clear i8
         try clear i9
         try clear k5
         try clear k6
         try clear k7
         try clear k8
         try clear k9
         try clear l3
         try clear l4
         try clear l5
         try clear l6
         try clear o7
         try clear o8
         try clear o9
         try clear p0
         try clear p3
         try clear p4
         try clear p5
         try clear p6
         try clear p7
         try clear m7
         try clear m8
         try clear m9
         try clear n0
         try clear n1
         try clear n2
         try clear n3
         try clear n4
         try clear n5
         try clear b9
         try clear d0
         try clear d3
         try clear d4
         try clear d5
         try clear d6
         try clear d7
         try clear d8
         try clear d9
         try clear p1
         try clear p10
         try clear e4
         try clear p2
         try clear q1
         try clear q10
         try clear e5
         obtain ⟨kq, e1, rfl, HA, HJ16, a1, HB⟩ := hcut
         cases kq with
         | zero => exact absurd HA.out (by simp [Zb.j2])
         | succ a3 =>
          have H := HA.out; clear HA
          simp only [Zb.j2] at H
          by_cases c22 : e1 = true
          ·subst c22
           have H1 : (some false) = some r := by rw [if_pos rfl] at H; exact H
           clear H; have H := H1; clear H1; obtain rfl := Option.some.inj H
           go_wp2
           go_ret; exact ⟨by first | rfl | (simp [Qt, Qu] <;> rfl) | (simp [*, Qt, Qu] <;> rfl), bw_⟩
          ·replace c22 := Bool.eq_false_iff.mpr c22
           subst c22
           have H1 : ((Zv.f ((Qb l0 a0).f0.f0) ((Qb l0 a0).f0.f1) ((Qb l0 a0).f0.f2) ((Qb l0 a0).f1) ((Qb l0 a0).f2) ((Qb l0 a0).f3) ((Qb l0 a0).f4) ((Qb l0 a0).f5) ((Qb l0 a0).f6)).bind fun e2 => (if e2 = true then (if a5 = true then (some false) else (if ((Qb l0 a0).f2).toList = ([] : List UInt8) then (some false) else (if a0 < (wrap64 ((l0.length : Int) - 1)) then ((Ve.f ((Qb l0 a0).f2) (⟨#[10]⟩ : ByteArray)).bind fun b6 => (if b6 = true then ((Zv.f ((Qb l0 a0).f0.f0) ((Qb l0 a0).f0.f1) ((Qb l0 a0).f0.f2) ((Qb l0 a0).f1) ((Qb l0 a0).f2) ((Qb l0 a0).f3) ((Qb l0 a0).f4) ((Qb l0 a0).f5) ((Qb l0 a0).f6)).bind fun a4 => (Zb.l0 a3 l0 a4 l0 (l0.length : Int) (wrap64 (a0 + 1)))) else (some false))) else ((Zv.f ((Qb l0 a0).f0.f0) ((Qb l0 a0).f0.f1) ((Qb l0 a0).f0.f2) ((Qb l0 a0).f1) ((Qb l0 a0).f2) ((Qb l0 a0).f3) ((Qb l0 a0).f4) ((Qb l0 a0).f5) ((Qb l0 a0).f6)).bind fun b5 => (Zb.l0 a3 l0 b5 l0 (l0.length : Int) (wrap64 (a0 + 1))))))) else ((Zv.f ((Qb l0 a0).f0.f0) ((Qb l0 a0).f0.f1) ((Qb l0 a0).f0.f2) ((Qb l0 a0).f1) ((Qb l0 a0).f2) ((Qb l0 a0).f3) ((Qb l0 a0).f4) ((Qb l0 a0).f5) ((Qb l0 a0).f6)).bind fun b7 => (Zb.l0 a3 l0 b7 l0 (l0.length : Int) (wrap64 (a0 + 1)))))) = some r := by rw [if_neg (show ¬ (false = true) by decide)] at H; exact H
           clear H; have H := H1; clear H1; replace H := Option.bind_eq_some_iff.mp H; obtain ⟨e2, q3, H⟩ := H; replace H : (if e2 = true then (if a5 = true then (some false) else (if ((Qb l0 a0).f2).toList = ([] : List UInt8) then (some false) else (if a0 < (wrap64 ((l0.length : Int) - 1)) then ((Ve.f ((Qb l0 a0).f2) (⟨#[10]⟩ : ByteArray)).bind fun b6 => (if b6 = true then ((Zv.f ((Qb l0 a0).f0.f0) ((Qb l0 a0).f0.f1) ((Qb l0 a0).f0.f2) ((Qb l0 a0).f1) ((Qb l0 a0).f2) ((Qb l0 a0).f3) ((Qb l0 a0).f4) ((Qb l0 a0).f5) ((Qb l0 a0).f6)).bind fun a4 => (Zb.l0 a3 l0 a4 l0 (l0.length : Int) (wrap64 (a0 + 1)))) else (some false))) else ((Zv.f ((Qb l0 a0).f0.f0) ((Qb l0 a0).f0.f1) ((Qb l0 a0).f0.f2) ((Qb l0 a0).f1) ((Qb l0 a0).f2) ((Qb l0 a0).f3) ((Qb l0 a0).f4) ((Qb l0 a0).f5) ((Qb l0 a0).f6)).bind fun b5 => (Zb.l0 a3 l0 b5 l0 (l0.length : Int) (wrap64 (a0 + 1))))))) else ((Zv.f ((Qb l0 a0).f0.f0) ((Qb l0 a0).f0.f1) ((Qb l0 a0).f0.f2) ((Qb l0 a0).f1) ((Qb l0 a0).f2) ((Qb l0 a0).f3) ((Qb l0 a0).f4) ((Qb l0 a0).f5) ((Qb l0 a0).f6)).bind fun b7 => (Zb.l0 a3 l0 b7 l0 (l0.length : Int) (wrap64 (a0 + 1))))) = some r := H; have A23 := Qa.mk q3; clear q3
           by_cases c24 : e2 = true
           ·subst c24
            have H1 : (if a5 = true then (some false) else (if ((Qb l0 a0).f2).toList = ([] : List UInt8) then (some false) else (if a0 < (wrap64 ((l0.length : Int) - 1)) then ((Ve.f ((Qb l0 a0).f2) (⟨#[10]⟩ : ByteArray)).bind fun b6 => (if b6 = true then ((Zv.f ((Qb l0 a0).f0.f0) ((Qb l0 a0).f0.f1) ((Qb l0 a0).f0.f2) ((Qb l0 a0).f1) ((Qb l0 a0).f2) ((Qb l0 a0).f3) ((Qb l0 a0).f4) ((Qb l0 a0).f5) ((Qb l0 a0).f6)).bind fun a4 => (Zb.l0 a3 l0 a4 l0 (l0.length : Int) (wrap64 (a0 + 1)))) else (some false))) else ((Zv.f ((Qb l0 a0).f0.f0) ((Qb l0 a0).f0.f1) ((Qb l0 a0).f0.f2) ((Qb l0 a0).f1) ((Qb l0 a0).f2) ((Qb l0 a0).f3) ((Qb l0 a0).f4) ((Qb l0 a0).f5) ((Qb l0 a0).f6)).bind fun b5 => (Zb.l0 a3 l0 b5 l0 (l0.length : Int) (wrap64 (a0 + 1))))))) = some r := by rw [if_pos rfl] at H; exact H
            clear H; have H := H1; clear H1
            by_cases c25 : a5 = true
            ·subst c25
             have H1 : (some false) = some r := by rw [if_pos rfl] at H; exact H
             clear H; have H := H1; clear H1; obtain rfl := Option.some.inj H; have r3 : wc.cell? ⟨a2, 0, none⟩ = some (.string ((Qb l0 a0).f0.f0)) := (Qc a1.out 0).trans rfl; have r4 : wc.cell? ⟨a2, 1, none⟩ = some (.string ((Qb l0 a0).f0.f1)) := (Qc a1.out 1).trans rfl; have r5 : wc.cell? ⟨a2, 2, none⟩ = some (.string ((Qb l0 a0).f0.f2)) := (Qc a1.out 2).trans rfl; have r6 : wc.cell? ⟨a2, 3, none⟩ = some (.bool ((Qb l0 a0).f1)) := (Qc a1.out 3).trans rfl; have r7 : wc.cell? ⟨a2, 4, none⟩ = some (.string ((Qb l0 a0).f2)) := (Qc a1.out 4).trans rfl; have r8 : wc.cell? ⟨a2, 5, none⟩ = some (.string ((Qb l0 a0).f3)) := (Qc a1.out 5).trans rfl; have r9 : wc.cell? ⟨a2, 6, none⟩ = some (.string ((Qb l0 a0).f4)) := (Qc a1.out 6).trans rfl; have s0 : wc.cell? ⟨a2, 7, none⟩ = some (.string ((Qb l0 a0).f5)) := (Qc a1.out 7).trans rfl; have s1 : wc.cell? ⟨a2, 8, none⟩ = some (.bool ((Qb l0 a0).f6)) := (Qc a1.out 8).trans rfl; have s2 := Qe a1.out 0; have s3 := Qe a1.out 1; have s4 := Qe a1.out 2; have s5 := Qe a1.out 3; have s6 := Qe a1.out 4; have s7 := Qe a1.out 5; have s8 := Qe a1.out 6; have s9 := Qe a1.out 7; have t0 := Qe a1.out 8; go_wp2_with (first | ((with_reducible refine Xo (f := 114) rfl ?_); refine Vb (some 28) rfl rfl Try.func114 (by kernel_rfl) rfl #[.agg #[.string ((Qb l0 a0).f0.f0), .string ((Qb l0 a0).f0.f1), .string ((Qb l0 a0).f0.f2), .bool ((Qb l0 a0).f1), .string ((Qb l0 a0).f2), .string ((Qb l0 a0).f3), .string ((Qb l0 a0).f4), .string ((Qb l0 a0).f5), .bool ((Qb l0 a0).f6)]] rfl (by (try simp only [List.map_toArray, List.map_cons, List.map_nil]); first | done | rfl | (simp only [List.length_drop, List.length_take]; rfl)) ?_; (with_reducible refine (Zv.calls ((Qb l0 a0).f0.f0) ((Qb l0 a0).f0.f1) ((Qb l0 a0).f0.f2) ((Qb l0 a0).f1) ((Qb l0 a0).f2) ((Qb l0 a0).f3) ((Qb l0 a0).f4) ((Qb l0 a0).f5) ((Qb l0 a0).f6) true _ A23.out).mono ?_); rintro e w27 ⟨rfl, hb⟩; refine ⟨_, rfl, ?_⟩; have n0_ := Qa.mk (Qq (g := a2) (o := .cells #[.string ((Qb l0 a0).f0.f0), .string ((Qb l0 a0).f0.f1), .string ((Qb l0 a0).f0.f2), .bool ((Qb l0 a0).f1), .string ((Qb l0 a0).f2), .string ((Qb l0 a0).f3), .string ((Qb l0 a0).f4), .string ((Qb l0 a0).f5), .bool ((Qb l0 a0).f6)] 120 (0, 0)) (bk_ a1.out) hb); have n1_ := Qa.mk (Qj bw_ hb); clear a1; clear HB; have a1 := n0_; have HB := n1_; clear n0_ n1_; (try clear hb); (try clear hb2); (try clear hk); (try clear hi))); go_ret; exact ⟨by first | rfl | (simp [Qt, Qu] <;> rfl) | (simp [*, Qt, Qu] <;> rfl), bw_⟩
            ·replace c25 := Bool.eq_false_iff.mpr c25
             subst c25
             have H1 : (if ((Qb l0 a0).f2).toList = ([] : List UInt8) then (some false) else (if a0 < (wrap64 ((l0.length : Int) - 1)) then ((Ve.f ((Qb l0 a0).f2) (⟨#[10]⟩ : ByteArray)).bind fun b6 => (if b6 = true then ((Zv.f ((Qb l0 a0).f0.f0) ((Qb l0 a0).f0.f1) ((Qb l0 a0).f0.f2) ((Qb l0 a0).f1) ((Qb l0 a0).f2) ((Qb l0 a0).f3) ((Qb l0 a0).f4) ((Qb l0 a0).f5) ((Qb l0 a0).f6)).bind fun a4 => (Zb.l0 a3 l0 a4 l0 (l0.length : Int) (wrap64 (a0 + 1)))) else (some false))) else ((Zv.f ((Qb l0 a0).f0.f0) ((Qb l0 a0).f0.f1) ((Qb l0 a0).f0.f2) ((Qb l0 a0).f1) ((Qb l0 a0).f2) ((Qb l0 a0).f3) ((Qb l0 a0).f4) ((Qb l0 a0).f5) ((Qb l0 a0).f6)).bind fun b5 => (Zb.l0 a3 l0 b5 l0 (l0.length : Int) (wrap64 (a0 + 1)))))) = some r := by rw [if_neg (show ¬ (false = true) by decide)] at H; exact H
             clear H; have H := H1; clear H1
             by_cases c28 : ((Qb l0 a0).f2).toList = ([] : List UInt8)
             ·rw [if_pos c28] at H
              have q8 : (((Qb l0 a0).f2).toList == ([] : List UInt8)) = true := beq_iff_eq.mpr c28; have q9 : (((Qb l0 a0).f2).toList != ([] : List UInt8)) = false := bne_eq_false_iff_eq.mpr c28; clear c28; obtain rfl := Option.some.inj H; have t1 : wc.cell? ⟨a2, 0, none⟩ = some (.string ((Qb l0 a0).f0.f0)) := (Qc a1.out 0).trans rfl; have t2 : wc.cell? ⟨a2, 1, none⟩ = some (.string ((Qb l0 a0).f0.f1)) := (Qc a1.out 1).trans rfl; have t3 : wc.cell? ⟨a2, 2, none⟩ = some (.string ((Qb l0 a0).f0.f2)) := (Qc a1.out 2).trans rfl; have t4 : wc.cell? ⟨a2, 3, none⟩ = some (.bool ((Qb l0 a0).f1)) := (Qc a1.out 3).trans rfl; have t5 : wc.cell? ⟨a2, 4, none⟩ = some (.string ((Qb l0 a0).f2)) := (Qc a1.out 4).trans rfl; have t6 : wc.cell? ⟨a2, 5, none⟩ = some (.string ((Qb l0 a0).f3)) := (Qc a1.out 5).trans rfl; have t7 : wc.cell? ⟨a2, 6, none⟩ = some (.string ((Qb l0 a0).f4)) := (Qc a1.out 6).trans rfl; have t8 : wc.cell? ⟨a2, 7, none⟩ = some (.string ((Qb l0 a0).f5)) := (Qc a1.out 7).trans rfl; have t9 : wc.cell? ⟨a2, 8, none⟩ = some (.bool ((Qb l0 a0).f6)) := (Qc a1.out 8).trans rfl; have u0 := Qe a1.out 0; have u1 := Qe a1.out 1; have u2 := Qe a1.out 2; have u3 := Qe a1.out 3; have u4 := Qe a1.out 4; have u5 := Qe a1.out 5; have u6 := Qe a1.out 6; have u7 := Qe a1.out 7; have u8 := Qe a1.out 8; go_wp2_with (first | ((with_reducible refine Xo (f := 114) rfl ?_); refine Vb (some 28) rfl rfl Try.func114 (by kernel_rfl) rfl #[.agg #[.string ((Qb l0 a0).f0.f0), .string ((Qb l0 a0).f0.f1), .string ((Qb l0 a0).f0.f2), .bool ((Qb l0 a0).f1), .string ((Qb l0 a0).f2), .string ((Qb l0 a0).f3), .string ((Qb l0 a0).f4), .string ((Qb l0 a0).f5), .bool ((Qb l0 a0).f6)]] rfl (by (try simp only [List.map_toArray, List.map_cons, List.map_nil]); first | done | rfl | (simp only [List.length_drop, List.length_take]; rfl)) ?_; (with_reducible refine (Zv.calls ((Qb l0 a0).f0.f0) ((Qb l0 a0).f0.f1) ((Qb l0 a0).f0.f2) ((Qb l0 a0).f1) ((Qb l0 a0).f2) ((Qb l0 a0).f3) ((Qb l0 a0).f4) ((Qb l0 a0).f5) ((Qb l0 a0).f6) true _ A23.out).mono ?_); rintro e w30 ⟨rfl, hb⟩; refine ⟨_, rfl, ?_⟩; have n0_ := Qa.mk (Qq (g := a2) (o := .cells #[.string ((Qb l0 a0).f0.f0), .string ((Qb l0 a0).f0.f1), .string ((Qb l0 a0).f0.f2), .bool ((Qb l0 a0).f1), .string ((Qb l0 a0).f2), .string ((Qb l0 a0).f3), .string ((Qb l0 a0).f4), .string ((Qb l0 a0).f5), .bool ((Qb l0 a0).f6)] 120 (0, 0)) (bk_ a1.out) hb); have n1_ := Qa.mk (Qj bw_ hb); clear a1; clear HB; have a1 := n0_; have HB := n1_; clear n0_ n1_; (try clear hb); (try clear hb2); (try clear hk); (try clear hi); obtain ⟨u9, v0, v2, v4, v5, v6, v7, v9, w2⟩ := Ju a1.out; obtain ⟨w3, w4, w5, w7, w8, w9, x1, x2, x5⟩ := Jv a1.out)); go_ret; exact ⟨by first | rfl | (simp [Qt, Qu] <;> rfl) | (simp [*, Qt, Qu] <;> rfl), bw_⟩
             ·rw [if_neg c28] at H
              have q8 : (((Qb l0 a0).f2).toList == ([] : List UInt8)) = false := beq_eq_false_iff_ne.mpr c28; have q9 : (((Qb l0 a0).f2).toList != ([] : List UInt8)) = true := bne_iff_ne.mpr c28
              by_cases c32 : a0 < (wrap64 ((l0.length : Int) - 1))
              ·rw [if_pos c32] at H
               have r0 : decide (a0 < (wrap64 ((l0.length : Int) - 1))) = true := decide_eq_true c32; clear c32; replace H := Option.bind_eq_some_iff.mp H; obtain ⟨b6, q4, H⟩ := H; replace H : (if b6 = true then ((Zv.f ((Qb l0 a0).f0.f0) ((Qb l0 a0).f0.f1) ((Qb l0 a0).f0.f2) ((Qb l0 a0).f1) ((Qb l0 a0).f2) ((Qb l0 a0).f3) ((Qb l0 a0).f4) ((Qb l0 a0).f5) ((Qb l0 a0).f6)).bind fun a4 => (Zb.l0 a3 l0 a4 l0 (l0.length : Int) (wrap64 (a0 + 1)))) else (some false)) = some r := H; have A33 := Qa.mk q4; clear q4
               by_cases c34 : b6 = true
               ·subst c34
                have H1 : ((Zv.f ((Qb l0 a0).f0.f0) ((Qb l0 a0).f0.f1) ((Qb l0 a0).f0.f2) ((Qb l0 a0).f1) ((Qb l0 a0).f2) ((Qb l0 a0).f3) ((Qb l0 a0).f4) ((Qb l0 a0).f5) ((Qb l0 a0).f6)).bind fun a4 => (Zb.l0 a3 l0 a4 l0 (l0.length : Int) (wrap64 (a0 + 1)))) = some r := by rw [if_pos rfl] at H; exact H
                clear H; have H := H1; clear H1; replace H := Option.bind_eq_some_iff.mp H; obtain ⟨a4, q5, H⟩ := H; replace H : (Zb.l0 a3 l0 a4 l0 (l0.length : Int) (wrap64 (a0 + 1))) = some r := H; have A35 := Qa.mk q5; clear q5; have EA35 := Option.some.inj (A35.out.symm.trans A23.out); have H' := Qa.mk H; clear H; have x9 : wc.cell? ⟨a2, 0, none⟩ = some (.string ((Qb l0 a0).f0.f0)) := (Qc a1.out 0).trans rfl; have y0 : wc.cell? ⟨a2, 1, none⟩ = some (.string ((Qb l0 a0).f0.f1)) := (Qc a1.out 1).trans rfl; have y7 : wc.cell? ⟨a2, 2, none⟩ = some (.string ((Qb l0 a0).f0.f2)) := (Qc a1.out 2).trans rfl; have y8 : wc.cell? ⟨a2, 3, none⟩ = some (.bool ((Qb l0 a0).f1)) := (Qc a1.out 3).trans rfl; have y9 : wc.cell? ⟨a2, 4, none⟩ = some (.string ((Qb l0 a0).f2)) := (Qc a1.out 4).trans rfl; have z0 : wc.cell? ⟨a2, 5, none⟩ = some (.string ((Qb l0 a0).f3)) := (Qc a1.out 5).trans rfl; have z1 : wc.cell? ⟨a2, 6, none⟩ = some (.string ((Qb l0 a0).f4)) := (Qc a1.out 6).trans rfl; have z2 : wc.cell? ⟨a2, 7, none⟩ = some (.string ((Qb l0 a0).f5)) := (Qc a1.out 7).trans rfl; have z3 : wc.cell? ⟨a2, 8, none⟩ = some (.bool ((Qb l0 a0).f6)) := (Qc a1.out 8).trans rfl; have z4 := Qe a1.out 0; have z5 := Qe a1.out 1; have z6 := Qe a1.out 2; have z7 := Qe a1.out 3; have z8 := Qe a1.out 4; have z9 := Qe a1.out 5; have A1 := Qe a1.out 6; have A2 := Qe a1.out 7; have A3 := Qe a1.out 8; go_wp2_with (first | ((with_reducible refine Xo (f := 114) rfl ?_); refine Vb (some 28) rfl rfl Try.func114 (by kernel_rfl) rfl #[.agg #[.string ((Qb l0 a0).f0.f0), .string ((Qb l0 a0).f0.f1), .string ((Qb l0 a0).f0.f2), .bool ((Qb l0 a0).f1), .string ((Qb l0 a0).f2), .string ((Qb l0 a0).f3), .string ((Qb l0 a0).f4), .string ((Qb l0 a0).f5), .bool ((Qb l0 a0).f6)]] rfl (by (try simp only [List.map_toArray, List.map_cons, List.map_nil]); first | done | rfl | (simp only [List.length_drop, List.length_take]; rfl)) ?_; (with_reducible refine (Zv.calls ((Qb l0 a0).f0.f0) ((Qb l0 a0).f0.f1) ((Qb l0 a0).f0.f2) ((Qb l0 a0).f1) ((Qb l0 a0).f2) ((Qb l0 a0).f3) ((Qb l0 a0).f4) ((Qb l0 a0).f5) ((Qb l0 a0).f6) true _ A23.out).mono ?_); rintro e w37 ⟨rfl, hb⟩; refine ⟨_, rfl, ?_⟩; have n0_ := Qa.mk (Qq (g := a2) (o := .cells #[.string ((Qb l0 a0).f0.f0), .string ((Qb l0 a0).f0.f1), .string ((Qb l0 a0).f0.f2), .bool ((Qb l0 a0).f1), .string ((Qb l0 a0).f2), .string ((Qb l0 a0).f3), .string ((Qb l0 a0).f4), .string ((Qb l0 a0).f5), .bool ((Qb l0 a0).f6)] 120 (0, 0)) (bk_ a1.out) hb); have n1_ := Qa.mk (Qj bw_ hb); clear a1; clear HB; have a1 := n0_; have HB := n1_; clear n0_ n1_; (try clear hb); (try clear hb2); (try clear hk); (try clear hi); obtain ⟨A4, A5, A6, A7, A9, B2, B6, B7, C0⟩ := Ju a1.out; obtain ⟨C1, C2, C3, C4, C5, C6, C7, C8, C9⟩ := Jv a1.out) | (go_at_call 109; (with_reducible refine (Ve.calls ((Qb l0 a0).f2) (⟨#[10]⟩ : ByteArray) true _ A33.out).mono ?_); rintro e w' ⟨rfl, ⟨nd, rfl⟩⟩) | ((with_reducible refine Xo (f := 114) rfl ?_); refine Vb (some 51) rfl rfl Try.func114 (by kernel_rfl) rfl #[.agg #[.string ((Qb l0 a0).f0.f0), .string ((Qb l0 a0).f0.f1), .string ((Qb l0 a0).f0.f2), .bool ((Qb l0 a0).f1), .string ((Qb l0 a0).f2), .string ((Qb l0 a0).f3), .string ((Qb l0 a0).f4), .string ((Qb l0 a0).f5), .bool ((Qb l0 a0).f6)]] rfl (by (try simp only [List.map_toArray, List.map_cons, List.map_nil]); first | done | rfl | (simp only [List.length_drop, List.length_take]; rfl)) ?_; (with_reducible refine (Zv.calls ((Qb l0 a0).f0.f0) ((Qb l0 a0).f0.f1) ((Qb l0 a0).f0.f2) ((Qb l0 a0).f1) ((Qb l0 a0).f2) ((Qb l0 a0).f3) ((Qb l0 a0).f4) ((Qb l0 a0).f5) ((Qb l0 a0).f6) a4 _ A35.out).mono ?_); rintro e w39 ⟨rfl, hb⟩; refine ⟨_, rfl, ?_⟩; have n0_ := Qa.mk (Qq (g := a2) (o := .cells #[.string ((Qb l0 a0).f0.f0), .string ((Qb l0 a0).f0.f1), .string ((Qb l0 a0).f0.f2), .bool ((Qb l0 a0).f1), .string ((Qb l0 a0).f2), .string ((Qb l0 a0).f3), .string ((Qb l0 a0).f4), .string ((Qb l0 a0).f5), .bool ((Qb l0 a0).f6)] 120 (0, 0)) (bk_ a1.out) hb); have n1_ := Qa.mk (Qj bw_ hb); clear a1; clear HB; have a1 := n0_; have HB := n1_; clear n0_ n1_; (try clear hb); (try clear hb2); (try clear hk); (try clear hi)))
                go_roundg a3
                case measure => have := HK1.out; have := HJ4.out; have := HJ16.out; omega
                case rel => exact ⟨(a4), (wrap64 (a0 + 1)), sm_, sm_, H', ⟨by have := HK1.out; have := HJ4.out; have := HJ16.out; omega⟩, ⟨bw_⟩⟩
               ·replace c34 := Bool.eq_false_iff.mpr c34
                subst c34
                have H1 : (some false) = some r := by rw [if_neg (show ¬ (false = true) by decide)] at H; exact H
                clear H; have H := H1; clear H1; obtain rfl := Option.some.inj H; have D0 : wc.cell? ⟨a2, 0, none⟩ = some (.string ((Qb l0 a0).f0.f0)) := (Qc a1.out 0).trans rfl; have D2 : wc.cell? ⟨a2, 1, none⟩ = some (.string ((Qb l0 a0).f0.f1)) := (Qc a1.out 1).trans rfl; have D3 : wc.cell? ⟨a2, 2, none⟩ = some (.string ((Qb l0 a0).f0.f2)) := (Qc a1.out 2).trans rfl; have D4 : wc.cell? ⟨a2, 3, none⟩ = some (.bool ((Qb l0 a0).f1)) := (Qc a1.out 3).trans rfl; have D5 : wc.cell? ⟨a2, 4, none⟩ = some (.string ((Qb l0 a0).f2)) := (Qc a1.out 4).trans rfl; have D6 : wc.cell? ⟨a2, 5, none⟩ = some (.string ((Qb l0 a0).f3)) := (Qc a1.out 5).trans rfl; have D7 : wc.cell? ⟨a2, 6, none⟩ = some (.string ((Qb l0 a0).f4)) := (Qc a1.out 6).trans rfl; have D8 : wc.cell? ⟨a2, 7, none⟩ = some (.string ((Qb l0 a0).f5)) := (Qc a1.out 7).trans rfl; have D9 : wc.cell? ⟨a2, 8, none⟩ = some (.bool ((Qb l0 a0).f6)) := (Qc a1.out 8).trans rfl; have E0 := Qe a1.out 0; have E1 := Qe a1.out 1; have E2 := Qe a1.out 2; have E3 := Qe a1.out 3; have E4 := Qe a1.out 4; have E5 := Qe a1.out 5; have E6 := Qe a1.out 6; have E7 := Qe a1.out 7; have E8 := Qe a1.out 8; go_wp2_with (first | ((with_reducible refine Xo (f := 114) rfl ?_); refine Vb (some 28) rfl rfl Try.func114 (by kernel_rfl) rfl #[.agg #[.string ((Qb l0 a0).f0.f0), .string ((Qb l0 a0).f0.f1), .string ((Qb l0 a0).f0.f2), .bool ((Qb l0 a0).f1), .string ((Qb l0 a0).f2), .string ((Qb l0 a0).f3), .string ((Qb l0 a0).f4), .string ((Qb l0 a0).f5), .bool ((Qb l0 a0).f6)]] rfl (by (try simp only [List.map_toArray, List.map_cons, List.map_nil]); first | done | rfl | (simp only [List.length_drop, List.length_take]; rfl)) ?_; (with_reducible refine (Zv.calls ((Qb l0 a0).f0.f0) ((Qb l0 a0).f0.f1) ((Qb l0 a0).f0.f2) ((Qb l0 a0).f1) ((Qb l0 a0).f2) ((Qb l0 a0).f3) ((Qb l0 a0).f4) ((Qb l0 a0).f5) ((Qb l0 a0).f6) true _ A23.out).mono ?_); rintro e w41 ⟨rfl, hb⟩; refine ⟨_, rfl, ?_⟩; have n0_ := Qa.mk (Qq (g := a2) (o := .cells #[.string ((Qb l0 a0).f0.f0), .string ((Qb l0 a0).f0.f1), .string ((Qb l0 a0).f0.f2), .bool ((Qb l0 a0).f1), .string ((Qb l0 a0).f2), .string ((Qb l0 a0).f3), .string ((Qb l0 a0).f4), .string ((Qb l0 a0).f5), .bool ((Qb l0 a0).f6)] 120 (0, 0)) (bk_ a1.out) hb); have n1_ := Qa.mk (Qj bw_ hb); clear a1; clear HB; have a1 := n0_; have HB := n1_; clear n0_ n1_; (try clear hb); (try clear hb2); (try clear hk); (try clear hi); obtain ⟨E9, F0, F1, F2, F3, F4, F5, F6, F7⟩ := Ju a1.out; obtain ⟨F8, F9, G0, G1, G2, G3, G4, G5, G6⟩ := Jv a1.out) | (go_at_call 109; (with_reducible refine (Ve.calls ((Qb l0 a0).f2) (⟨#[10]⟩ : ByteArray) false _ A33.out).mono ?_); rintro e w' ⟨rfl, ⟨nd, rfl⟩⟩)); go_ret; exact ⟨by first | rfl | (simp [Qt, Qu] <;> rfl) | (simp [*, Qt, Qu] <;> rfl), bw_⟩
              ·rw [if_neg c32] at H
               have r0 : decide (a0 < (wrap64 ((l0.length : Int) - 1))) = false := decide_eq_false c32; clear c32; replace H := Option.bind_eq_some_iff.mp H; obtain ⟨b5, q6, H⟩ := H; replace H : (Zb.l0 a3 l0 b5 l0 (l0.length : Int) (wrap64 (a0 + 1))) = some r := H; have A43 := Qa.mk q6; clear q6; have EA43 := Option.some.inj (A43.out.symm.trans A23.out); have H' := Qa.mk H; clear H; have G7 : wc.cell? ⟨a2, 0, none⟩ = some (.string ((Qb l0 a0).f0.f0)) := (Qc a1.out 0).trans rfl; have G8 : wc.cell? ⟨a2, 1, none⟩ = some (.string ((Qb l0 a0).f0.f1)) := (Qc a1.out 1).trans rfl; have G9 : wc.cell? ⟨a2, 2, none⟩ = some (.string ((Qb l0 a0).f0.f2)) := (Qc a1.out 2).trans rfl; have H0 : wc.cell? ⟨a2, 3, none⟩ = some (.bool ((Qb l0 a0).f1)) := (Qc a1.out 3).trans rfl; have H2 : wc.cell? ⟨a2, 4, none⟩ = some (.string ((Qb l0 a0).f2)) := (Qc a1.out 4).trans rfl; have H3 : wc.cell? ⟨a2, 5, none⟩ = some (.string ((Qb l0 a0).f3)) := (Qc a1.out 5).trans rfl; have H4 : wc.cell? ⟨a2, 6, none⟩ = some (.string ((Qb l0 a0).f4)) := (Qc a1.out 6).trans rfl; have H5 : wc.cell? ⟨a2, 7, none⟩ = some (.string ((Qb l0 a0).f5)) := (Qc a1.out 7).trans rfl; have H6 : wc.cell? ⟨a2, 8, none⟩ = some (.bool ((Qb l0 a0).f6)) := (Qc a1.out 8).trans rfl; have H7 := Qe a1.out 0; have H8 := Qe a1.out 1; have H9 := Qe a1.out 2; have I0 := Qe a1.out 3; have I1 := Qe a1.out 4; have I2 := Qe a1.out 5; have I3 := Qe a1.out 6; have I4 := Qe a1.out 7; have I5 := Qe a1.out 8; go_wp2_with (first | ((with_reducible refine Xo (f := 114) rfl ?_); refine Vb (some 28) rfl rfl Try.func114 (by kernel_rfl) rfl #[.agg #[.string ((Qb l0 a0).f0.f0), .string ((Qb l0 a0).f0.f1), .string ((Qb l0 a0).f0.f2), .bool ((Qb l0 a0).f1), .string ((Qb l0 a0).f2), .string ((Qb l0 a0).f3), .string ((Qb l0 a0).f4), .string ((Qb l0 a0).f5), .bool ((Qb l0 a0).f6)]] rfl (by (try simp only [List.map_toArray, List.map_cons, List.map_nil]); first | done | rfl | (simp only [List.length_drop, List.length_take]; rfl)) ?_; (with_reducible refine (Zv.calls ((Qb l0 a0).f0.f0) ((Qb l0 a0).f0.f1) ((Qb l0 a0).f0.f2) ((Qb l0 a0).f1) ((Qb l0 a0).f2) ((Qb l0 a0).f3) ((Qb l0 a0).f4) ((Qb l0 a0).f5) ((Qb l0 a0).f6) true _ A23.out).mono ?_); rintro e w45 ⟨rfl, hb⟩; refine ⟨_, rfl, ?_⟩; have n0_ := Qa.mk (Qq (g := a2) (o := .cells #[.string ((Qb l0 a0).f0.f0), .string ((Qb l0 a0).f0.f1), .string ((Qb l0 a0).f0.f2), .bool ((Qb l0 a0).f1), .string ((Qb l0 a0).f2), .string ((Qb l0 a0).f3), .string ((Qb l0 a0).f4), .string ((Qb l0 a0).f5), .bool ((Qb l0 a0).f6)] 120 (0, 0)) (bk_ a1.out) hb); have n1_ := Qa.mk (Qj bw_ hb); clear a1; clear HB; have a1 := n0_; have HB := n1_; clear n0_ n1_; (try clear hb); (try clear hb2); (try clear hk); (try clear hi); obtain ⟨I6, I7, I8, I9, J0, J1, J2, J3, J4⟩ := Ju a1.out; obtain ⟨J5, J6, J7, J8, J9, K0, K1, K2, K3⟩ := Jv a1.out) | ((with_reducible refine Xo (f := 114) rfl ?_); refine Vb (some 51) rfl rfl Try.func114 (by kernel_rfl) rfl #[.agg #[.string ((Qb l0 a0).f0.f0), .string ((Qb l0 a0).f0.f1), .string ((Qb l0 a0).f0.f2), .bool ((Qb l0 a0).f1), .string ((Qb l0 a0).f2), .string ((Qb l0 a0).f3), .string ((Qb l0 a0).f4), .string ((Qb l0 a0).f5), .bool ((Qb l0 a0).f6)]] rfl (by (try simp only [List.map_toArray, List.map_cons, List.map_nil]); first | done | rfl | (simp only [List.length_drop, List.length_take]; rfl)) ?_; (with_reducible refine (Zv.calls ((Qb l0 a0).f0.f0) ((Qb l0 a0).f0.f1) ((Qb l0 a0).f0.f2) ((Qb l0 a0).f1) ((Qb l0 a0).f2) ((Qb l0 a0).f3) ((Qb l0 a0).f4) ((Qb l0 a0).f5) ((Qb l0 a0).f6) b5 _ A43.out).mono ?_); rintro e w47 ⟨rfl, hb⟩; refine ⟨_, rfl, ?_⟩; have n0_ := Qa.mk (Qq (g := a2) (o := .cells #[.string ((Qb l0 a0).f0.f0), .string ((Qb l0 a0).f0.f1), .string ((Qb l0 a0).f0.f2), .bool ((Qb l0 a0).f1), .string ((Qb l0 a0).f2), .string ((Qb l0 a0).f3), .string ((Qb l0 a0).f4), .string ((Qb l0 a0).f5), .bool ((Qb l0 a0).f6)] 120 (0, 0)) (bk_ a1.out) hb); have n1_ := Qa.mk (Qj bw_ hb); clear a1; clear HB; have a1 := n0_; have HB := n1_; clear n0_ n1_; (try clear hb); (try clear hb2); (try clear hk); (try clear hi)))
               go_roundg a3
               case measure => have := HK1.out; have := HJ4.out; have := HJ16.out; omega
               case rel => exact ⟨(b5), (wrap64 (a0 + 1)), sm_, sm_, H', ⟨by have := HK1.out; have := HJ4.out; have := HJ16.out; omega⟩, ⟨bw_⟩⟩
           ·replace c24 := Bool.eq_false_iff.mpr c24
            subst c24
            have H1 : ((Zv.f ((Qb l0 a0).f0.f0) ((Qb l0 a0).f0.f1) ((Qb l0 a0).f0.f2) ((Qb l0 a0).f1) ((Qb l0 a0).f2) ((Qb l0 a0).f3) ((Qb l0 a0).f4) ((Qb l0 a0).f5) ((Qb l0 a0).f6)).bind fun b7 => (Zb.l0 a3 l0 b7 l0 (l0.length : Int) (wrap64 (a0 + 1)))) = some r := by rw [if_neg (show ¬ (false = true) by decide)] at H; exact H
            clear H; have H := H1; clear H1; replace H := Option.bind_eq_some_iff.mp H; obtain ⟨b7, q7, H⟩ := H; replace H : (Zb.l0 a3 l0 b7 l0 (l0.length : Int) (wrap64 (a0 + 1))) = some r := H; have A48 := Qa.mk q7; clear q7; have EA48 := Option.some.inj (A48.out.symm.trans A23.out); have H' := Qa.mk H; clear H; have K4 : wc.cell? ⟨a2, 0, none⟩ = some (.string ((Qb l0 a0).f0.f0)) := (Qc a1.out 0).trans rfl; have K5 : wc.cell? ⟨a2, 1, none⟩ = some (.string ((Qb l0 a0).f0.f1)) := (Qc a1.out 1).trans rfl; have K6 : wc.cell? ⟨a2, 2, none⟩ = some (.string ((Qb l0 a0).f0.f2)) := (Qc a1.out 2).trans rfl; have K7 : wc.cell? ⟨a2, 3, none⟩ = some (.bool ((Qb l0 a0).f1)) := (Qc a1.out 3).trans rfl; have K8 : wc.cell? ⟨a2, 4, none⟩ = some (.string ((Qb l0 a0).f2)) := (Qc a1.out 4).trans rfl; have K9 : wc.cell? ⟨a2, 5, none⟩ = some (.string ((Qb l0 a0).f3)) := (Qc a1.out 5).trans rfl; have L0 : wc.cell? ⟨a2, 6, none⟩ = some (.string ((Qb l0 a0).f4)) := (Qc a1.out 6).trans rfl; have L1 : wc.cell? ⟨a2, 7, none⟩ = some (.string ((Qb l0 a0).f5)) := (Qc a1.out 7).trans rfl; have L2 : wc.cell? ⟨a2, 8, none⟩ = some (.bool ((Qb l0 a0).f6)) := (Qc a1.out 8).trans rfl; have L3 := Qe a1.out 0; have L4 := Qe a1.out 1; have L5 := Qe a1.out 2; have L6 := Qe a1.out 3; have L7 := Qe a1.out 4; have L8 := Qe a1.out 5; have L9 := Qe a1.out 6; have M0 := Qe a1.out 7; have M1 := Qe a1.out 8; go_wp2_with (first | ((with_reducible refine Xo (f := 114) rfl ?_); refine Vb (some 28) rfl rfl Try.func114 (by kernel_rfl) rfl #[.agg #[.string ((Qb l0 a0).f0.f0), .string ((Qb l0 a0).f0.f1), .string ((Qb l0 a0).f0.f2), .bool ((Qb l0 a0).f1), .string ((Qb l0 a0).f2), .string ((Qb l0 a0).f3), .string ((Qb l0 a0).f4), .string ((Qb l0 a0).f5), .bool ((Qb l0 a0).f6)]] rfl (by (try simp only [List.map_toArray, List.map_cons, List.map_nil]); first | done | rfl | (simp only [List.length_drop, List.length_take]; rfl)) ?_; (with_reducible refine (Zv.calls ((Qb l0 a0).f0.f0) ((Qb l0 a0).f0.f1) ((Qb l0 a0).f0.f2) ((Qb l0 a0).f1) ((Qb l0 a0).f2) ((Qb l0 a0).f3) ((Qb l0 a0).f4) ((Qb l0 a0).f5) ((Qb l0 a0).f6) false _ A23.out).mono ?_); rintro e w50 ⟨rfl, hb⟩; refine ⟨_, rfl, ?_⟩; have n0_ := Qa.mk (Qq (g := a2) (o := .cells #[.string ((Qb l0 a0).f0.f0), .string ((Qb l0 a0).f0.f1), .string ((Qb l0 a0).f0.f2), .bool ((Qb l0 a0).f1), .string ((Qb l0 a0).f2), .string ((Qb l0 a0).f3), .string ((Qb l0 a0).f4), .string ((Qb l0 a0).f5), .bool ((Qb l0 a0).f6)] 120 (0, 0)) (bk_ a1.out) hb); have n1_ := Qa.mk (Qj bw_ hb); clear a1; clear HB; have a1 := n0_; have HB := n1_; clear n0_ n1_; (try clear hb); (try clear hb2); (try clear hk); (try clear hi); obtain ⟨M2, M3, M4, M5, M6, M7, M8, M9, N0⟩ := Ju a1.out; obtain ⟨N1, N2, N3, N4, N5, N6, N7, N8, N9⟩ := Jv a1.out) | ((with_reducible refine Xo (f := 114) rfl ?_); refine Vb (some 51) rfl rfl Try.func114 (by kernel_rfl) rfl #[.agg #[.string ((Qb l0 a0).f0.f0), .string ((Qb l0 a0).f0.f1), .string ((Qb l0 a0).f0.f2), .bool ((Qb l0 a0).f1), .string ((Qb l0 a0).f2), .string ((Qb l0 a0).f3), .string ((Qb l0 a0).f4), .string ((Qb l0 a0).f5), .bool ((Qb l0 a0).f6)]] rfl (by (try simp only [List.map_toArray, List.map_cons, List.map_nil]); first | done | rfl | (simp only [List.length_drop, List.length_take]; rfl)) ?_; (with_reducible refine (Zv.calls ((Qb l0 a0).f0.f0) ((Qb l0 a0).f0.f1) ((Qb l0 a0).f0.f2) ((Qb l0 a0).f1) ((Qb l0 a0).f2) ((Qb l0 a0).f3) ((Qb l0 a0).f4) ((Qb l0 a0).f5) ((Qb l0 a0).f6) b7 _ A48.out).mono ?_); rintro e w52 ⟨rfl, hb⟩; refine ⟨_, rfl, ?_⟩; have n0_ := Qa.mk (Qq (g := a2) (o := .cells #[.string ((Qb l0 a0).f0.f0), .string ((Qb l0 a0).f0.f1), .string ((Qb l0 a0).f0.f2), .bool ((Qb l0 a0).f1), .string ((Qb l0 a0).f2), .string ((Qb l0 a0).f3), .string ((Qb l0 a0).f4), .string ((Qb l0 a0).f5), .bool ((Qb l0 a0).f6)] 120 (0, 0)) (bk_ a1.out) hb); have n1_ := Qa.mk (Qj bw_ hb); clear a1; clear HB; have a1 := n0_; have HB := n1_; clear n0_ n1_; (try clear hb); (try clear hb2); (try clear hk); (try clear hi)))
            go_roundg a3
            case measure => have := HK1.out; have := HJ4.out; have := HJ16.out; omega
            case rel => exact ⟨(b7), (wrap64 (a0 + 1)), sm_, sm_, H', ⟨by have := HK1.out; have := HJ4.out; have := HJ16.out; omega⟩, ⟨bw_⟩⟩
     ·rw [if_neg c4] at H
      exact absurd H (by simp)
    ·rw [if_neg c3] at H
     exact absurd H (by simp)
   ·rw [if_neg c2] at H
    have n6 : decide (a0 < (l0.length : Int)) = false := decide_eq_false c2; clear c2; obtain rfl := Option.some.inj H
    go_wp2
    go_ret; exact ⟨by first | rfl | (simp [Qt, Qu] <;> rfl) | (simp [*, Qt, Qu] <;> rfl), bw_⟩
end Go.Proofs.Ytadafplbgophfaa.PA
end
section
namespace Go.Proofs.Ytadafplbgophfaa.Pure
namespace Res
open Go.RowKit Go.Proofs.Ytadafplbgophfaa.PA Go.Proofs.YtadafplbgophfaaW.PrintWords Go.Proofs.YtadafplbgophfaaW.PrintLast Go.Proofs.YtadafplbgophfaaW.PrintMore
theorem w64 {x : Int} (h0 : -9223372036854775808 ≤ x) (h1 : x ≤ 9223372036854775807) : wrap64 x = x := by unfold wrap64; omega
def Yu (p : Xi) : Yv := ⟨⟨p.f0, p.f1, p.f2⟩, p.f3, p.f4, p.f5, p.f6, p.f7, p.f8⟩
theorem Qng {d : List Xi} {i : Nat} (h : i < d.length) : Qd d (i : Int) = d[i] := by simp [Qd, List.getD_eq_getElem?_getD, h]
theorem Qpb {d : List Yv} {i : Nat} (h : i < d.length) : Qb d (i : Int) = d[i] := by simp [Qb, List.getD_eq_getElem?_getD, h]
theorem Qla {d : List Xi} {i : Nat} (h : i < d.length) : Qb (d.map Yu) (i : Int) = Yu d[i] := by rw [Qpb (by simpa using h), List.getElem_map]
def szs (p : Xi) : Nat := p.f4.size + p.f5.size + p.f6.size + p.f7.size + p.f0.size + p.f1.size + p.f2.size
def plB (s : ByteArray) : Bool := !(s.data.toList.contains 10)
theorem Qco (s : ByteArray) (i : Nat) (h : i < s.size) : bt s (i : Int) = ((s.data.toList[i]'(by simpa using h)).toNat : Int) := by
 have e := Qgh s (i : Int) (by simpa using h); rw [← e]; rfl
theorem ten (b : UInt8) : ((b.toNat : Int) = 10) ↔ b = 10 := by
 constructor
 ·intro h
  have h2 : b.toNat = 10 := by omega
  exact UInt8.toNat_inj.1 (by rw [h2]; rfl)
 ·rintro rfl; rfl
theorem Qnf (s : ByteArray) (hs : s.size ≤ 1000000000000) : ∀ (n i : Nat), s.size - i ≤ n → i ≤ s.size → Ev (fun k => Zi.l0 k s i) (!((s.data.toList.drop i).contains 10)) := by
 intro n
 induction n with
 | zero =>
  intro i h1 h2; refine Ev.step (f := fun _ => some true) (fun k => ?_) ?_
  ·simp only [Zi.l0]; rw [if_neg (by omega)]
  ·rw [List.drop_of_length_le (by simp; omega)]; exact Ev.now _
 | succ n ih =>
  intro i h1 h2
  by_cases hi : i < s.size
  ·have hl : i < s.data.toList.length := by simpa using hi
   rw [List.drop_eq_getElem_cons hl]
   by_cases h10 : s.data.toList[i] = 10
   ·refine Ev.step (f := fun _ => some false) (fun k => ?_) ?_
    ·simp only [Zi.l0]; rw [if_pos (by omega), if_pos (by omega), if_pos (by rw [Qco s i hi, ten]; exact h10)]
    ·rw [h10]; simp only [List.contains_cons, beq_self_eq_true, Bool.true_or, Bool.not_true]; exact Ev.now _
   ·refine Ev.step (f := fun k => Zi.l0 k s ((i + 1 : Nat) : Int)) (fun k => ?_) ?_
    ·simp only [Zi.l0]; rw [if_pos (by omega), if_pos (by omega), if_neg (by rw [Qco s i hi, ten]; exact h10), w64 (by omega) (by omega)]; rfl
    ·have := ih (i + 1) (by omega) (by omega)
     have e : (10 == s.data.toList[i]) = false := beq_eq_false_iff_ne.mpr (fun e => h10 e.symm); rw [List.contains_cons, e, Bool.false_or]; exact this
  ·refine Ev.step (f := fun _ => some true) (fun k => ?_) ?_
   ·simp only [Zi.l0]; rw [if_neg (by omega)]
   ·rw [List.drop_of_length_le (by simp; omega)]; exact Ev.now _
theorem Qgz (s : ByteArray) (hs : s.size ≤ 1000000000000) : Ev (fun k => Zi.f k s) (plB s) := by
 have := Qnf s hs s.size 0 (by omega) (by omega)
 rw [List.drop_zero] at this
 exact this
def plP (p : Xi) : Bool := plB p.f0 && (plB p.f1 && plB p.f2)
theorem Qmc (p : Xi) (h0 : p.f0.size ≤ 1000000000000) (h1 : p.f1.size ≤ 1000000000000) (h2 : p.f2.size ≤ 1000000000000) : Ev (fun k => Xu.f k p.f0 p.f1 p.f2 p.f3 p.f4 p.f5 p.f6 p.f7 p.f8) (plP p) := by
 unfold Xu.f plP; refine Ev.bind (Qgz _ h0) ?_
 cases plB p.f0
 ·exact Ev.congr (fun k => by rw [if_neg (by decide)]; rfl) (Ev.now _)
 ·refine Ev.congr (fun k => by rw [if_pos rfl]) ?_
  refine Ev.bind (Qgz _ h1) ?_
  cases plB p.f1
  ·exact Ev.congr (fun k => by rw [if_neg (by decide)]; rfl) (Ev.now _)
  ·refine Ev.congr (fun k => by rw [if_pos rfl]) ?_
   exact Ev.bind (Qgz _ h2) (Ev.now _)
theorem Qhu (p : Xi) (h0 : p.f0.size ≤ 1000000000000) (h1 : p.f1.size ≤ 1000000000000) (h2 : p.f2.size ≤ 1000000000000) : Ev (fun k => Xt.f k p.f0 p.f1 p.f2) (plP p) := by
 unfold Xt.f; have ha : (p.f0 ++ p.f1).size = p.f0.size + p.f1.size := ByteArray.size_append; refine Ev.congr (fun k => by rw [if_pos (by omega), if_pos (by omega)]) ?_
 have e : (decide (0 ≤ Lib.indexByte ((p.f0 ++ p.f1) ++ p.f2).data.toList 10)) = !(plP p) := by
  rw [← Lib.contains_iff_indexByte, show (p.f0 ++ p.f1 ++ p.f2).data.toList = (p.f0.data.toList ++ p.f1.data.toList) ++ p.f2.data.toList by simp [ByteArray.data_append]]; simp only [plP, plB, List.contains_eq_any_beq, List.any_append, Bool.not_and, Bool.not_not, Bool.or_assoc]
 refine Ev.bind (a := !(plP p)) (Ev.congr (f := fun _ => some (!(plP p))) (fun k => ?_) (Ev.now _)) (Ev.congr (f := fun _ => some (plP p)) (fun k => by rw [Bool.not_not]) (Ev.now _)); unfold Vf.f; rw [if_pos rfl, e]
def Up (s : ByteArray) : Bool := decide (0 < s.size) && (bt s ((s.size : Int) - 1) == 10)
theorem Qql (l : List UInt8) (n : Nat) (h : n + 1 = l.length) : Lib.RK.win l n 1 = [l[n]'(by omega)] := by
 unfold Lib.RK.win; rw [List.drop_eq_getElem_cons (by omega)]; rfl
theorem Qlc (s : ByteArray) (hs : s.size ≤ 1000000000000) : Ve.f s ⟨#[10]⟩ = some (Up s) := by
 unfold Ve.f Vo.f Up; have e1 : ((⟨#[10]⟩ : ByteArray).size : Int) = 1 := rfl; rw [e1]
 by_cases h : 0 < s.size
 ·rw [if_pos (by omega), w64 (by omega) (by omega), if_pos (by omega), if_pos (by omega), decide_eq_true h, Bool.true_and, Option.bind_some]
  obtain ⟨n, hn⟩ : ∃ n, s.size = n + 1 := ⟨s.size - 1, by omega⟩
  have e2 : ((s.size : Int) - 1) = (n : Int) := by omega
  have hl : n + 1 = s.data.toList.length := by rw [← hn]; simp
  rw [e2, Int.toNat_natCast, ext_win, show s.size - n = 1 by omega, Qql _ _ hl, Qco s n (by omega)]
  congr 1
  have e3 : (⟨#[10]⟩ : ByteArray).toList = [10] := by rw [ByteArray.toList_eq]
  rw [e3]
  by_cases h10 : s.data.toList[n]'(by omega) = 10
  ·rw [h10]; rfl
  ·have a1 : ([s.data.toList[n]'(by omega)] == [(10 : UInt8)]) = false := beq_eq_false_iff_ne.mpr (fun e => h10 (by injection e))
   have a2 : ((((s.data.toList[n]'(by omega)).toNat : Nat) : Int) == 10) = false := beq_eq_false_iff_ne.mpr (fun e => h10 ((ten _).1 e)); rw [a1, a2]
 ·rw [if_neg (by omega), decide_eq_false h, Bool.false_and, Option.bind_some]
end Res
end Go.Proofs.Ytadafplbgophfaa.Pure
end
section
namespace Go.Proofs.Ytadafplbgophfaa.PA
open Go.RowKit Go.Proofs.YtadafplbgophfaaW.PrintWords Go.Proofs.YtadafplbgophfaaW.PrintLast Go.Proofs.YtadafplbgophfaaW.PrintMore
namespace FavT
theorem w64 {x : Int} (h0 : -9223372036854775808 ≤ x) (h1 : x ≤ 9223372036854775807) : wrap64 x = x := by unfold wrap64; omega
theorem Qjt {i : Nat} (h : i ≤ 1000000000000000) : wrap64 ((i : Int) + 1) = ((i + 1 : Nat) : Int) := by rw [w64 (by omega) (by omega)]; omega
theorem Qqc {i : Nat} (h0 : 0 < i) (h : i ≤ 1000000000000000) : wrap64 ((i : Int) - 1) = ((i - 1 : Nat) : Int) := by rw [w64 (by omega) (by omega)]; omega
theorem Qhg (t : ByteArray) : ∃ s, Yp.f t = some s ∧ s.size ≤ 200 := by
 unfold Yp.f mn
 split
 ·refine ⟨_, by rw [if_pos (by omega), if_pos (by omega)], ?_⟩
  simp only [ByteArray.size_extract]; omega
 ·refine ⟨_, by rw [if_pos (by omega), if_pos (by omega)], ?_⟩
  simp only [ByteArray.size_extract]; omega
open Pure.Res (Up Qco)
theorem Qpi (s : ByteArray) (a b i : Nat) (h : a + i < b) (hb : b ≤ s.size) : bt (s.extract a b) (i : Int) = bt s ((a + i : Nat) : Int) := by
 have hz : (s.extract a b).size = b - a := by rw [ByteArray.size_extract]; omega
 rw [Qco _ _ (by omega), Qco _ _ (by omega)]
 congr 2
 simp
theorem Qmo (s : ByteArray) {fr i : Nat} (hf : fr ≤ i) (hi : i < s.size) (h : bt s (i : Int) = 10) : Up (s.extract fr (i + 1)) = true := by
 have hz : (s.extract fr (i + 1)).size = i + 1 - fr := by rw [ByteArray.size_extract]; omega
 unfold Up; rw [decide_eq_true (by omega : 0 < (s.extract fr (i + 1)).size), Bool.true_and, show (((s.extract fr (i + 1)).size : Int) - 1) = ((i - fr : Nat) : Int) by omega, Qpi s fr (i + 1) (i - fr) (by omega) (by omega), show fr + (i - fr) = i by omega, h]; rfl
theorem Qnk (s : ByteArray) (hs : s.size ≤ 1000) : ∀ (n i : Nat) (acc : List ByteArray) (fr : Nat), s.size - i ≤ n → i ≤ s.size → fr ≤ i → acc.length ≤ i → (∀ x ∈ acc, x.size ≤ s.size) → (∀ x ∈ acc, Up x = true) →
  ∃ ls, Ev (fun k => Zn.l0 k s acc (fr : Int) (i : Int)) ls ∧ ls.length ≤ s.size ∧ (∀ x ∈ ls, x.size ≤ s.size) ∧ ∀ x ∈ ls.dropLast, Up x = true := by
 intro n
 induction n with
 | zero =>
  intro i acc fr h1 h2 h3 h4 h5 hE; refine ⟨acc, Ev.step (f := fun _ => some acc) (fun k => ?_) (Ev.now _), by omega, h5, fun x hx => hE x (List.dropLast_subset _ hx)⟩; simp only [Zn.l0]; rw [if_neg (by omega)]
 | succ n ih =>
  intro i acc fr h1 h2 h3 h4 h5 hE
  by_cases hi : i < s.size
  ·have hw := Qjt (i := i) (by omega)
   have g1 : (i : Int) < (s.size : Int) := by omega
   have g2 : (0 : Int) ≤ (i : Int) := by omega
   have g3 : (0 : Int) ≤ (fr : Int) := by omega
   have g4 : (fr : Int) ≤ ((i + 1 : Nat) : Int) := by omega
   have g5 : ((i + 1 : Nat) : Int) ≤ (s.size : Int) := by omega
   have g6 : acc.length < 8796093022208 := by omega
   have h6 : ∀ x ∈ acc ++ [s.extract fr (i + 1)], x.size ≤ s.size := by
    intro x hx
    rcases List.mem_append.1 hx with h | h
    ·exact h5 x h
    ·rw [List.mem_singleton.1 h, ByteArray.size_extract]; omega
   by_cases hb : bt s (i : Int) = 10
   ·obtain ⟨ls, he, hl, hz⟩ := ih (i + 1) (acc ++ [s.extract fr (i + 1)]) (i + 1) (by omega) (by omega) (by omega) (by rw [List.length_append, List.length_singleton]; omega) h6 (fun x hx => by
     rcases List.mem_append.1 hx with h | h
     ·exact hE x h
     ·rw [List.mem_singleton.1 h]; exact Qmo s h3 hi hb)
    refine ⟨ls, Ev.step (fun k => ?_) he, hl, hz⟩; simp only [Zn.l0]; rw [hw, if_pos g1, if_pos g2, if_pos hb, if_pos g3, if_pos g4, if_pos g5, if_pos g6, Int.toNat_natCast, Int.toNat_natCast]
   ·by_cases hl : i + 1 = s.size
    ·have g7 : ((i + 1 : Nat) : Int) = (s.size : Int) := by omega
     refine ⟨acc ++ [s.extract fr (i + 1)], Ev.step (f := fun k => Zn.l0 k s (acc ++ [s.extract fr (i + 1)]) ((i + 1 : Nat) : Int) ((i + 1 : Nat) : Int)) (fun k => ?_) (Ev.step (f := fun _ => some (acc ++ [s.extract fr (i + 1)])) (fun k => ?_) (Ev.now _)), by rw [List.length_append, List.length_singleton]; omega, h6, fun x hx => hE x (by rwa [List.dropLast_concat] at hx)⟩
     ·simp only [Zn.l0]
      rw [hw, if_pos g1, if_pos g2, if_neg hb, if_pos g7, if_pos g3, if_pos g4, if_pos g5, if_pos g6, Int.toNat_natCast, Int.toNat_natCast]
     ·simp only [Zn.l0]; rw [if_neg (by omega)]
    ·have g7 : ¬ ((i + 1 : Nat) : Int) = (s.size : Int) := by omega
     obtain ⟨ls, he, hl, hz⟩ := ih (i + 1) acc fr (by omega) (by omega) (by omega) (by omega) h5 hE; refine ⟨ls, Ev.step (fun k => ?_) he, hl, hz⟩; simp only [Zn.l0]; rw [hw, if_pos g1, if_pos g2, if_neg hb, if_neg g7]
  ·refine ⟨acc, Ev.step (f := fun _ => some acc) (fun k => ?_) (Ev.now _), by omega, h5, fun x hx => hE x (List.dropLast_subset _ hx)⟩
   simp only [Zn.l0]; rw [if_neg (by omega)]
theorem Qhi (s : ByteArray) (hs : s.size ≤ 1000) : ∃ ls, Ev (fun k => Zn.f k s) ls ∧ ls.length ≤ s.size ∧ (∀ x ∈ ls, x.size ≤ s.size) ∧ ∀ x ∈ ls.dropLast, Up x = true :=
 Qnk s hs s.size 0 [] 0 (by omega) (by omega) (by omega) (Nat.le_refl _) (by simp) (by simp)
open Chk Go.Proofs.Ytadafplbgophfaa.TriLcs
theorem Qca {a b : Int} : ∀ (l : List S37) (pa pb : Int), Uk a b pa pb l = true → ∀ p ∈ l, pa < p.f0 ∧ p.f0 < a ∧ pb < p.f1 ∧ p.f1 < b
 | [], _, _, _, p, hp => by simp at hp
 | q :: l, pa, pb, h, p, hp => by
  obtain ⟨⟨h1, h2, h3, h4⟩, h5⟩ := Ur.1 h
  rcases List.mem_cons.1 hp with e | e
  ·subst e; exact ⟨h1, h3, h2, h4⟩
  ·obtain ⟨g1, g2, g3, g4⟩ := Qca l _ _ h5 p e
   exact ⟨by omega, g2, by omega, g4⟩
theorem Qfb {a b a' b' : Int} (ha : a ≤ a') (hb : b ≤ b') : ∀ (l : List S37) (pa pb : Int), Uk a b pa pb l = true → Uk a' b' pa pb l = true
 | [], _, _, _ => rfl
 | q :: l, pa, pb, h => by
  obtain ⟨⟨h1, h2, h3, h4⟩, h5⟩ := Ur.1 h; exact Ur.2 ⟨⟨h1, h2, by omega, by omega⟩, Qfb ha hb l _ _ h5⟩
theorem Qie {n m : Int} : ∀ (l : List S37) (pa pb : Int), Uk n m pa pb l = true → pa < n → pb < m → Uk (n + 1) (m + 1) pa pb (l ++ [⟨n, m⟩]) = true
 | [], pa, pb, _, h1, h2 => Ur.2 ⟨⟨h1, h2, by show n < n + 1; omega, by show m < m + 1; omega⟩, rfl⟩
 | q :: l, pa, pb, h, _, _ => by
  obtain ⟨⟨h1, h2, h3, h4⟩, h5⟩ := Ur.1 h; exact Ur.2 ⟨⟨h1, h2, by omega, by omega⟩, Qie l _ _ h5 h3 h4⟩
theorem Qfx (a : List Int) (n : Nat) (i : Int) (h0 : 0 ≤ i) (h : i < n) : rd (a.take n) i = rd a i := by
 have : i.toNat < n := by omega
 simp [rd, List.getD_eq_getElem?_getD, List.getElem?_take, this]
theorem Qor : ∀ (n : Nat) (a b : List Int) (acc : List S37), a.length + b.length ≤ n → n ≤ 10000 → acc.length + a.length ≤ 10000 →
  ∃ ps, Ev (fun k => Qv.l0 k a b acc) (ps ++ acc) ∧ Uk a.length b.length (-1) (-1) ps = true ∧ (∀ p ∈ ps, rd a p.f0 = rd b p.f1) ∧ ps.length ≤ a.length := by
 intro n
 induction n with
 | zero =>
  intro a b acc h1 h2 h3; refine ⟨[], Ev.step (f := fun k => Qv.j1 k a b acc false) (fun k => ?_) (Ev.step (f := fun _ => some acc) (fun k => ?_) (Ev.now _)), rfl, by simp, Nat.zero_le _⟩
  ·simp only [Qv.l0]; rw [if_neg (by omega)]
  ·simp only [Qv.j1]; rw [if_neg (by simp)]
 | succ n ih =>
  intro a b acc h1 h2 h3
  by_cases ha : 0 < a.length
  ·by_cases hb : 0 < b.length
   ·have wa := Qqc ha (by omega)
    have wb := Qqc hb (by omega)
    have lta : (a.take (a.length - 1)).length = a.length - 1 := by rw [List.length_take]; omega
    have ltb : (b.take (b.length - 1)).length = b.length - 1 := by rw [List.length_take]; omega
    have p1 : (0 : Int) ≤ ((a.length - 1 : Nat) : Int) := by omega
    have p2 : ((a.length - 1 : Nat) : Int) < (a.length : Int) := by omega
    have p3 : (0 : Int) ≤ ((b.length - 1 : Nat) : Int) := by omega
    have p4 : ((b.length - 1 : Nat) : Int) < (b.length : Int) := by omega
    have p5 : ((a.length - 1 : Nat) : Int) ≤ (a.length : Int) := by omega
    have p6 : ((b.length - 1 : Nat) : Int) ≤ (b.length : Int) := by omega
    have start : ∀ {r}, Ev (fun k => Qv.j1 k a b acc true) r → Ev (fun k => Qv.l0 k a b acc) r := fun h => Ev.step (fun k => by
     simp only [Qv.l0]; rw [if_pos (by omega), show decide ((b.length : Int) > 0) = true from decide_eq_true (by omega)]) h
    by_cases he : rd a ((a.length - 1 : Nat) : Int) = rd b ((b.length - 1 : Nat) : Int)
    ·obtain ⟨ps, hE, hr, hq, hlen⟩ := ih (a.take (a.length - 1)) (b.take (b.length - 1)) ([(⟨((a.length - 1 : Nat) : Int), ((b.length - 1 : Nat) : Int)⟩ : S37)] ++ acc) (by rw [lta, ltb]; omega) (by omega) (by rw [lta, List.length_append, List.length_singleton]; omega)
     rw [lta, ltb] at hr
     rw [lta] at hlen
     have hm := Qca ps _ _ hr; refine ⟨ps ++ [⟨((a.length - 1 : Nat) : Int), ((b.length - 1 : Nat) : Int)⟩], start (Ev.step (fun k => ?_) (by rw [List.append_assoc]; exact hE)), ?_, ?_, by rw [List.length_append, List.length_singleton]; omega⟩
     ·simp only [Qv.j1]
      rw [wa, wb, if_pos trivial, if_pos p1, if_pos p2, if_pos p3, if_pos p4, if_pos he, Option.bind_some, if_pos (by rw [List.length_singleton]; omega), if_pos p5, if_pos p6, Int.toNat_natCast, Int.toNat_natCast]
     ·have := Qie ps (-1) (-1) hr (by omega) (by omega)
      rwa [show ((a.length - 1 : Nat) : Int) + 1 = (a.length : Int) by omega, show ((b.length - 1 : Nat) : Int) + 1 = (b.length : Int) by omega] at this
     ·intro p hp
      rcases List.mem_append.1 hp with e | e
      ·obtain ⟨g1, g2, g3, g4⟩ := hm p e
       have := hq p e
       rwa [Qfx a _ _ (by omega) g2, Qfx b _ _ (by omega) g4] at this
      ·rw [List.mem_singleton.1 e]; exact he
    ·have L1 := Qex (a.take (a.length - 1)) b (by rw [lta]; omega) (by omega)
     have L2 := Qex a b (by omega) (by omega)
     have go : ∀ {r}, Ev (fun k => if ((lcs (a.take (a.length - 1)) b : Nat) : Int) = ((lcs a b : Nat) : Int) then Qv.l0 k (a.take (a.length - 1)) b acc else Qv.l0 k a (b.take (b.length - 1)) acc) r → Ev (fun k => Qv.j1 k a b acc true) r := by
      intro r h; refine Ev.step (f := fun k => (Qm.f k (a.take (a.length - 1)) b).bind fun t => (Qm.f k a b).bind fun u => if t = u then Qv.l0 k (a.take (a.length - 1)) b acc else Qv.l0 k a (b.take (b.length - 1)) acc) (fun k => ?_) (Ev.bind L1 (Ev.bind L2 h)); simp only [Qv.j1]; rw [wa, wb, if_pos trivial, if_pos p1, if_pos p2, if_pos p3, if_pos p4, if_neg he, if_pos p5, if_pos p6, Int.toNat_natCast, Int.toNat_natCast]
     by_cases hc : ((lcs (a.take (a.length - 1)) b : Nat) : Int) = ((lcs a b : Nat) : Int)
     ·obtain ⟨ps, hE, hr, hq, hlen⟩ := ih (a.take (a.length - 1)) b acc (by rw [lta]; omega) (by omega) (by rw [lta]; omega)
      rw [lta] at hr hlen
      have hm := Qca ps _ _ hr; refine ⟨ps, start (go (Ev.congr (fun k => if_pos hc) hE)), Qfb (by omega) (Int.le_refl _) ps _ _ hr, fun p hp => ?_, by omega⟩; obtain ⟨g1, g2, g3, g4⟩ := hm p hp; rw [← hq p hp, Qfx a _ _ (by omega) g2]
     ·obtain ⟨ps, hE, hr, hq, hlen⟩ := ih a (b.take (b.length - 1)) acc (by rw [ltb]; omega) (by omega) (by omega)
      rw [ltb] at hr
      have hm := Qca ps _ _ hr; refine ⟨ps, start (go (Ev.congr (fun k => if_neg hc) hE)), Qfb (Int.le_refl _) (by omega) ps _ _ hr, fun p hp => ?_, hlen⟩; obtain ⟨g1, g2, g3, g4⟩ := hm p hp; rw [hq p hp, Qfx b _ _ (by omega) g4]
   ·refine ⟨[], Ev.step (f := fun k => Qv.j1 k a b acc false) (fun k => ?_) (Ev.step (f := fun _ => some acc) (fun k => ?_) (Ev.now _)), rfl, by simp, Nat.zero_le _⟩
    ·simp only [Qv.l0]; rw [if_pos (by omega), show decide ((b.length : Int) > 0) = false from decide_eq_false (by omega)]
    ·simp only [Qv.j1]; rw [if_neg (by simp)]
  ·refine ⟨[], Ev.step (f := fun k => Qv.j1 k a b acc false) (fun k => ?_) (Ev.step (f := fun _ => some acc) (fun k => ?_) (Ev.now _)), rfl, by simp, Nat.zero_le _⟩
   ·simp only [Qv.l0]; rw [if_neg (by omega)]
   ·simp only [Qv.j1]; rw [if_neg (by simp)]
theorem Qfy (a b : List Int) (ha : a.length ≤ 1000) (hb : b.length ≤ 1000) : ∃ ps, Ev (fun k => Qv.f k a b) ps ∧ Uk a.length b.length (-1) (-1) ps = true ∧ (∀ p ∈ ps, rd a p.f0 = rd b p.f1) ∧ ps.length ≤ a.length := by
 obtain ⟨ps, h, r⟩ := Qor (a.length + b.length) a b [] (Nat.le_refl _) (by omega) (by simp only [List.length_nil]; omega)
 rw [List.append_nil] at h
 exact ⟨ps, h, r⟩
theorem Qgx : ∀ (l : List S37) (o : Int), Ji (-1) l o ≠ -1 → ∃ p ∈ l, p.f0 = o ∧ p.f1 = Ji (-1) l o
 | [], _, h => absurd rfl h
 | p :: l, o, h => by
  rw [Ji] at h ⊢
  split
  ·exact ⟨p, List.mem_cons_self .., by assumption, rfl⟩
  ·rename_i hn
   rw [if_neg hn] at h
   obtain ⟨q, hq, e⟩ := Qgx l o h; exact ⟨q, List.mem_cons_of_mem _ hq, e⟩
theorem Qib (a c : List ByteArray) (e : List (List UInt8)) {i k : Int} (h0 : 0 ≤ i) (h1 : i < a.length) (h2 : 0 ≤ k) (h3 : k < c.length) (h : rd (Yg [] a).1 i = rd (Yg ((Yg [] a).2 ++ e) c).1 k) : Ye ByteArray.empty a i = Ye ByteArray.empty c k := by
 rw [Qcf a [] h0 h1, Qcf c _ h2 h3] at h
 obtain ⟨⟨e2, he⟩, hb, _⟩ := Ka c ((Yg [] a).2 ++ e); have ha := (Ka a []).2.1
 have hlt : i.toNat < a.length := by omega
 have hlk : k.toNat < c.length := by omega
 have e1 : Ye ByteArray.empty a i = a[i.toNat] := by simp [Ye, List.getD_eq_getElem?_getD, hlt]
 have e2 : Ye ByteArray.empty c k = c[k.toNat] := by simp [Ye, List.getD_eq_getElem?_getD, hlk]
 rw [e1, e2] at h ⊢
 have m1 := ha _ (List.getElem_mem hlt); have m2 := hb _ (List.getElem_mem hlk)
 have m3 : (Yg [] a).2.idxOf a[i.toNat].data.toList = (Yg ((Yg [] a).2 ++ e) c).2.idxOf a[i.toNat].data.toList := by rw [he, List.append_assoc, List.idxOf_append, if_pos m1]
 rw [m3] at h
 refine Qim.1 (Qkw ?_ m2 (by omega)); rw [he, List.append_assoc]; exact List.mem_append_left _ m1
structure Qpz (s0 s1 s2 : ByteArray) (l0 l1 l2 : List ByteArray) (cs : List S81) (f g : Int → Int) : Prop where
 some : Ev (fun k => Xv.f k s0 s1 s2) (l0, l1, l2, cs)
 n0 : l0.length ≤ 200
 n1 : l1.length ≤ 200
 n2 : l2.length ≤ 200
 z0 : ∀ x ∈ l0, x.size ≤ 200
 z1 : ∀ x ∈ l1, x.size ≤ 200
 z2 : ∀ x ∈ l2, x.size ≤ 200
 sw : Sw f g l0.length l1.length l2.length 0 0 0 cs
 nc : cs.length ≤ 600
 e0 : ∀ x ∈ l0.dropLast, Up x = true
 e1 : ∀ x ∈ l1.dropLast, Up x = true
 e2 : ∀ x ∈ l2.dropLast, Up x = true
 hf : ∀ o, 0 ≤ f o → 0 ≤ o ∧ o < l0.length ∧ f o < l1.length ∧ Ye ByteArray.empty l0 o = Ye ByteArray.empty l1 (f o)
 hg : ∀ o, 0 ≤ g o → 0 ≤ o ∧ o < l0.length ∧ g o < l2.length ∧ Ye ByteArray.empty l0 o = Ye ByteArray.empty l2 (g o)
theorem Qkl (s0 s1 s2 : ByteArray) (h0 : s0.size ≤ 200) (h1 : s1.size ≤ 200) (h2 : s2.size ≤ 200) : ∃ l0 l1 l2 cs f g, Qpz s0 s1 s2 l0 l1 l2 cs f g := by
 obtain ⟨l0, e0, n0, z0, y0⟩ := Qhi s0 (by omega); obtain ⟨l1, e1, n1, z1, y1⟩ := Qhi s1 (by omega); obtain ⟨l2, e2, n2, z2, y2⟩ := Qhi s2 (by omega); have en := Qop [l0, l1, l2] (by simp) (by simp only [Kq]; omega); have q0 := Jw l0 []; have q1 := Jw l1 (Yg [] l0).2; have q2 := Jw l2 (Yg (Yg [] l0).2 l1).2; obtain ⟨p1, b1, r1, m1, k1⟩ := Qfy (Yg [] l0).1 (Yg (Yg [] l0).2 l1).1 (by omega) (by omega); obtain ⟨p2, b2, r2, m2, k2⟩ := Qfy (Yg [] l0).1 (Yg (Yg (Yg [] l0).2 l1).2 l2).1 (by omega) (by omega)
 rw [q0, q1] at r1
 rw [q0, q2] at r2
 obtain ⟨⟨ee, he⟩, _⟩ := Ka l1 (Yg [] l0).2; obtain ⟨cs, hsw, hcl⟩ := Qnl (Ji (-1) p1) (Ji (-1) p2) l0.length l1.length l2.length (fun i => Qiv (-1) (by omega) p1 _ _ i r1) (fun i => Qiv (-1) (by omega) p2 _ _ i r2) (l0.length + l1.length + l2.length) 0 0 0 (by omega) ⟨by omega, by omega, by omega, by omega, by omega, by omega⟩; have eo := Qoq (l := p1) (r := p2) (base := l0.length) (left := l1.length) (right := l2.length) (by omega) (by omega) (by omega) (by omega) (by omega) ⟨⟨by omega, by omega, by omega⟩, r1, r2⟩ hsw (by omega); refine ⟨l0, l1, l2, cs, Ji (-1) p1, Ji (-1) p2, ?_, by omega, by omega, by omega, fun x hx => Nat.le_trans (z0 x hx) h0, fun x hx => Nat.le_trans (z1 x hx) h1, fun x hx => Nat.le_trans (z2 x hx) h2, hsw, by omega, y0, y1, y2, ?_, ?_⟩
 ·refine Ev.bind e0 (Ev.bind e1 (Ev.bind e2 (Ev.bind en ?_)))
  refine Ev.congr (fun k => if_pos rfl) (Ev.bind b1 (Ev.bind b2 (Ev.bind eo (Ev.now _))))
 ·intro o ho
  obtain ⟨p, hp, e1, e2⟩ := Qgx p1 o (by omega); obtain ⟨g1, g2, g3, g4⟩ := Qca p1 _ _ r1 p hp; have := m1 p hp; rw [← e2, ← e1]; exact ⟨by omega, g2, g4, Qib l0 l1 [] (by omega) g2 (by omega) g4 (by rw [List.append_nil]; exact this)⟩
 ·intro o ho
  obtain ⟨p, hp, e1, e2⟩ := Qgx p2 o (by omega); obtain ⟨g1, g2, g3, g4⟩ := Qca p2 _ _ r2 p hp; have := m2 p hp
  rw [he] at this
  rw [← e2, ← e1]; exact ⟨by omega, g2, g4, Qib l0 l2 ee (by omega) g2 (by omega) g4 this⟩
end FavT
end Go.Proofs.Ytadafplbgophfaa.PA
end
section
namespace Go.Proofs.Ytadafplbgophfaa.PA
open Go.RowKit Go.Proofs.YtadafplbgophfaaW.PrintWords Go.Proofs.YtadafplbgophfaaW.PrintLast Go.Proofs.YtadafplbgophfaaW.PrintMore
attribute [local go_sem] Xx Xz Yk Yl Xj Xk Xy Ya
def Zy.f (k : Nat) (l0 : List ByteArray) : Option (ByteArray) := (Vy.f k l0 (⟨#[]⟩ : ByteArray)).bind fun a1 => (some a1)
theorem Zy.mono : ∀ a0 k, LeO (Zy.f k a0) (Zy.f (k + 1) a0) := by
 intro a0 k; unfold Zy.f
 repeat' first
   | (with_reducible exact Vy.mono _ _ _)
   | (with_reducible exact LeO.refl _)
   | (with_reducible exact LeO.none _)
   | (with_reducible refine LeO.ite ?_ ?_)
   | (with_reducible refine LeO.bind ?_ (fun _ => ?_))
   | exact Vy.mono _ _ _
   | exact LeO.none _
   | refine LeO.ite ?_ ?_
   | refine LeO.bind ?_ (fun _ => ?_)
set_option maxHeartbeats 8000000 in
set_option maxRecDepth 100000 in
theorem Zy.calls (k : Nat) (A0 : Option Addr) (c0 : Nat) (l0 : List ByteArray) (r : ByteArray) (w : World) (hr0 : Kd.C Kd.string w A0 l0.length l0) (hc0 : l0.length ≤ c0) (h : Zy.f k l0 = some r) :
  Calls Try.prog 146 #[.slice A0 l0.length c0] w fun e w' => e = .returned (.string r) ∧ Below w.heap.size w w' := by
 have HR0 := Qa.mk hr0; have HC0 := Qa.mk hc0; clear hr0 hc0; have HB := Qa.mk (Below.refl w.heap.size w); have H : ((Vy.f k l0 (⟨#[]⟩ : ByteArray)).bind fun a1 => (some a1)) = some r := h; clear h; replace H := Option.bind_eq_some_iff.mp H; obtain ⟨a1, A20, H⟩ := H; replace H : (some a1) = some r := H; have A2 := Qa.mk A20; clear A20; obtain rfl := Option.some.inj H
 go_enter Try.func146, Try.ntmps146
 go_wp2_with (first | ((with_reducible refine Xo (f := 149) rfl ?_); refine Vb (some 4) rfl rfl Try.func149 (by kernel_rfl) rfl #[.slice A0 l0.length c0, .string (⟨#[]⟩ : ByteArray)] rfl (by (try simp only [List.map_toArray, List.map_cons, List.map_nil]); first | done | rfl | (simp only [List.length_drop, List.length_take]; rfl)) ?_; (with_reducible refine (Vy.calls k _ _ l0 (⟨#[]⟩ : ByteArray) a1 _ ?side1 ?side2 A2.out).mono ?_); (case side1 => repeat (first | exact HR0.out | (with_reducible refine Kd.C_alloc ?_ _) | (with_reducible refine Kd.C_drewN ?_ _) | (with_reducible refine Kd.C_drew ?_))); (case side2 => exact HC0.out); rintro e w3 ⟨rfl, hb⟩; refine ⟨_, rfl, ?_⟩; have n0_ := Qa.mk (Qj bw_ hb); clear HB; have HB := n0_; clear n0_; (try clear hb); (try clear hb2); (try clear hk); (try clear hi))); go_ret; exact ⟨by first | rfl | (simp [Qt, Qu] <;> rfl) | (simp [*, Qt, Qu] <;> rfl), bw_⟩
end Go.Proofs.Ytadafplbgophfaa.PA
end
section
namespace Go.Proofs.Ytadafplbgophfaa.PA
open Go.RowKit Go.Proofs.YtadafplbgophfaaW.PrintWords Go.Proofs.YtadafplbgophfaaW.PrintLast Go.Proofs.YtadafplbgophfaaW.PrintMore
structure Bld (w0 w : World) (g : Nat) (ok : Nat → Prop) (v : Value) (lb : Vz) (style favour : Int) (l : List Yv) : Prop where
 below : Below w0.heap.size w0 w
 ge : w0.heap.size ≤ g
 blk : w.heap[g]? = some (.cells #[.string lb.f0, .string lb.f1, .string lb.f2, .int .i64 style, .int .i64 favour, v] 181 (0, 0))
 own : Kd.R Je 120 w w0.heap.size ok v l
 nog : ¬ ok g
 fresh : ∀ k, w.heap.size ≤ k → ok k
theorem Bld.on {w0 w w1 : World} {g : Nat} {ok : Nat → Prop} {v : Value} {lb : Vz} {st fa : Int} {l : List Yv} (h : Bld w0 w g ok v lb st fa l) (hb : Below w.heap.size w w1) : Bld w0 w1 g ok v lb st fa l := ⟨Qj h.below hb, h.ge, (hb.block g (Zu h.blk)).trans h.blk, Kd.R_below h.own hb, h.nog, fun k hk => h.fresh k (Nat.le_trans hb.size hk)⟩
theorem Bld.drew {w0 w : World} {g : Nat} {ok : Nat → Prop} {v : Value} {lb : Vz} {st fa : Int} {l : List Yv} (h : Bld w0 w g ok v lb st fa l) : Bld w0 w.drew g ok v lb st fa l := ⟨Vv h.below, h.ge, h.blk, Kd.R_drew h.own, h.nog, h.fresh⟩
theorem Kp (w : World) (p : Addr) (u : Value) : (w.setCell p u).heap.size = w.heap.size := by simp [World.setCell]
def Fr (ok : Nat → Prop) (g : Nat) (w w' : World) : Prop := w.heap.size ≤ w'.heap.size ∧ ∀ k, k < w.heap.size → ¬ ok k → k ≠ g → w'.heap[k]? = w.heap[k]?
theorem Fr.trans {ok : Nat → Prop} {g : Nat} {w w1 w2 : World} (h : Fr ok g w w1) (h' : Fr ok g w1 w2) : Fr ok g w w2 := ⟨Nat.le_trans h.1 h'.1, fun k hk hn hg => (h'.2 k (Nat.lt_of_lt_of_le hk h.1) hn hg).trans (h.2 k hk hn hg)⟩
theorem Fr.of_below {ok : Nat → Prop} {g : Nat} {w w1 : World} (h : Below w.heap.size w w1) : Fr ok g w w1 := ⟨h.size, fun k hk _ _ => h.block k hk⟩
theorem Fr.mono {ok ok' : Nat → Prop} {g : Nat} {w w1 : World} (h : Fr ok' g w w1) (ho : ∀ k, ok' k → ok k) : Fr ok g w w1 := ⟨h.1, fun k hk hn hg => h.2 k hk (fun e => hn (ho k e)) hg⟩
theorem Fr.set {ok : Nat → Prop} {g : Nat} {w w1 : World} (h : Fr ok g w w1) {p : Addr} (u : Value) (hp : w.heap.size ≤ p.block) : Fr ok g w (w1.setCell p u) := ⟨by rw [Kp]; exact h.1, fun k hk hn hg => (Below.heap_setCell w1 p u k (by omega)).trans (h.2 k hk hn hg)⟩
theorem Bld.shrink {w0 w w' : World} {g : Nat} {ok : Nat → Prop} {v : Value} {lb : Vz} {st fa : Int} {l : List Yv} (h : Bld w0 w g ok v lb st fa l) (hb : Below w.heap.size w w') (a : Nat) (ha : w.heap.size ≤ a) (hlt : a < w'.heap.size) : Bld w0 w' g (fun k => ok k ∧ k ≠ a) v lb st fa l :=
 ⟨Qj h.below hb, h.ge, (hb.block g (Zu h.blk)).trans h.blk, Kd.R_below (Kd.R_elderB h.own a ha) hb, fun e => h.nog e.1, fun k hk => ⟨h.fresh k (Nat.le_trans hb.size hk), by omega⟩⟩
theorem Bld.far {w0 w : World} {g : Nat} {ok : Nat → Prop} {v : Value} {lb : Vz} {st fa : Int} {l : List Yv} (h : Bld w0 w g ok v lb st fa l) {p : Addr} (u : Value) (hp : ¬ ok p.block) (hg : g ≠ p.block) (hge : w0.heap.size ≤ p.block) : Bld w0 (w.setCell p u) g ok v lb st fa l :=
 ⟨h.below.setCell hge _, h.ge, Yt h.blk hg u, Kd.R_far h.own (fun k hk e => hp (e ▸ hk)) u, h.nog, fun k hk => h.fresh k (by rw [Kp] at hk; exact hk)⟩
theorem Bld.widen {w0 w : World} {g : Nat} {ok ok' : Nat → Prop} {v : Value} {lb : Vz} {st fa : Int} {l : List Yv} (h : Bld w0 w g ok' v lb st fa l) (ho : ∀ k, ok' k → ok k) (hg : ¬ ok g) : Bld w0 w g ok v lb st fa l :=
 ⟨h.below, h.ge, h.blk, Kd.R_mono h.own ho, hg, fun k hk => ho k (h.fresh k hk)⟩
def Yn (r : ByteArray) : Yv := ⟨Qeh, false, r, ⟨#[]⟩, ⟨#[]⟩, ⟨#[]⟩, false⟩
def Xh.T0 : Bool × List (List Nat × List Nat) := (true, [([], []), ([], []), ([1], [1]), ([2], [2]), ([3], [3]), ([], []), ([5], [5]), ([6], [6]), ([7], [7]), ([4, 8, 6], [4, 8]), ([0, 0, 1, 2, 3, 4, 5, 6, 7, 8, 9], [0]), ([10, 0, 1, 2, 3, 4, 5, 6, 7, 8, 9], [10]), ([11, 9, 9, 0, 1, 2, 3, 4, 5, 6, 7, 8, 9], [9, 11])])
def Xh.B0 : List Nat := [0, 0, 2, 6, 14, 0, 32, 96, 224, 510, 1023, 2047, 4095]
theorem Xh.tab0 : Vx .any (Jb Try.f136 0) = Xh.T0 := by kernel_rfl
theorem Xh.bits0 : Vk Xh.T0.2 Xh.B0 = true := by kernel_rfl
set_option maxHeartbeats 8000000 in
set_option maxRecDepth 100000 in
theorem Xh.calls (k : Nat) (g : Nat) (ok : Nat → Prop) (v : Value) (lb : Vz) (style favour : Int) (l : List Yv) (A : Option Addr) (c : Nat) (t : List ByteArray) (r : ByteArray) (w0 w : World) (hF : Bld w0 w g ok v lb style favour l)
  (hr : Kd.C Kd.string w A t.length t) (hc : t.length ≤ c) (hl : l.length ≤ 1000000000) (h : Zy.f k t = some r) :
  Calls Try.prog 136 #[.pointer (some ⟨g, 0, none⟩), .slice A t.length c] w fun e w' => e = .returned (.tuple #[]) ∧ (∃ v', Bld w0 w' g ok v' lb style favour (l ++ [Yn r])) ∧ Fr ok g w w' := by
 obtain ⟨A7, n7, c7, rfl⟩ : ∃ A n c, v = Value.slice A n c := by obtain ⟨A, c, h⟩ := Kd.R_slice hF.own; exact ⟨A, _, c, h⟩
 have HF := Qa.mk hF; have HR := Qa.mk hr; have HC := Qa.mk hc; have HL := Qa.mk hl; have HJ := Qa.mk h; have hc5 := (Qc hF.blk 5).trans (show _ = some (Value.slice A7 n7 c7) from rfl); have hu181 := Try.underlying181; have hu120 := Try.underlying120; clear hF hr hc hl h
 go_enter Try.func136, Try.ntmps136
 refine Ug (n := 13) (S := fun w' => w'.cell? ⟨g, 5, none⟩ = some (.slice A7 n7 c7)) (ds := [12]) (bz_ 13 0) (by kernel_rfl) rfl rfl hc5 (fun hHeld => ?_); refine Va Xh.tab0 Xh.bits0 (fun HT_ HW_ => ?_); have HC2 := Qa.mk (Kd.C_drew HR.out); have HF2 := Qa.mk HF.out.drew
 generalize hwd : w.drew = wd at HC2 HF2 hHeld ⊢
 have HWD := Qa.mk hwd; clear hwd hc5; refine pu_ (i := 0) (N := some 4) #[true, false, false, false, false, false, false, false, false, false, false, false, false] ?_; refine pu_ (i := 1) (N := some 5) #[true, true, false, false, false, false, false, false, false, false, false, false, false] ?_; refine pu_ (i := 2) (N := some 6) #[true, true, true, false, false, false, false, false, false, false, false, false, false] ?_; refine pu_ (i := 3) (N := some 7) #[true, true, true, true, false, false, false, false, false, false, false, false, false] ?_; refine ta_ (i := 4) (N := some 8) #[true, true, true, true, true, false, false, false, false, false, false, false, false] ?_; refine pu_ (i := 5) (N := some 9) #[true, true, true, true, true, true, false, false, false, false, false, false, false] ?_; refine on_ (i := 6) (N := some 10) #[true, true, true, true, true, true, true, false, false, false, false, false, false] (fun K hK => ?_); refine Vr Try.func146 (by kernel_rfl) rfl #[.slice A t.length c] (by rfl) rfl rfl (by (try simp only [List.map_toArray, List.map_cons, List.map_nil]); first | done | rfl) ?_; refine (Zy.calls k A c t r wd HC2.out HC.out HJ.out).mono ?_; rintro e w2 ⟨rfl, hb⟩; refine ⟨_, rfl, ?_⟩; have HB3 := Qa.mk hb; have HF3 := Qa.mk (HF2.out.on hb); clear hb; refine hK.out _ _ ((Qc HF3.out.blk 5).trans (show _ = some _ from rfl)) (fun hHeld => ?_); clear hK K; refine nN_ 10 ?_; refine pu_ (i := 7) (N := some 11) #[true, true, true, true, true, true, true, true, false, false, false, false, false] ?_; refine on_ (i := 8) (N := some 12) #[true, true, true, true, true, true, true, true, true, false, false, false, false] (fun K hK => ?_); refine Kh (w1 := ?_) (v := ?_) (by rfl) rfl ?_ ?_; rotate_left 2
 ·go_simp
  constructor
  ·rfl
  ·rfl
 refine hK.out _ _ ((Qc (Ql HF3.out.blk _) 5).trans (show _ = some _ from rfl)) (fun hHeld => ?_); clear hK K; refine nN_ 12 ?_; refine on_ (i := 9) (N := some 13) #[true, true, true, true, true, true, true, true, true, true, false, false, false] (fun K hK => ?_); refine Kd.R_append_step Je (w0 := w0) w0.heap.size (by rfl) (.tmp 8) (.tmp 12) 88 120 (.agg #[(.string ⟨#[]⟩), (.string ⟨#[]⟩), (.string ⟨#[]⟩), (.bool false), (.string ⟨#[]⟩), (.string ⟨#[]⟩), (.string ⟨#[]⟩), (.string ⟨#[]⟩), (.bool false)]) 128 rfl Try.underlying88 Qcy rfl (by decide) (by decide) (.slice A7 n7 c7) l (Yn r) [.string ⟨#[]⟩, .string ⟨#[]⟩, .string ⟨#[]⟩, .bool false, .string r, .string ⟨#[]⟩, .string ⟨#[]⟩, .string ⟨#[]⟩, .bool false] ok (fun _ => False) rfl rfl (Qba _ _ _ (Yn r)) (fun _ hk => hk.elim) ?aF HF3.out.own HF3.out.below HF3.out.below.size ?aL ?_
 (case aF => exact fun k hk => HF3.out.fresh k hk)
 (case aL => have := HL.out; omega)
 intro v4 w4 ho hb hg hat; have HO4 := Qa.mk ho; have HB4 := Qa.mk hb; have HG4 := Qa.mk hg; have HK4 := Qa.mk (Ym HF3.out.blk hg (Kd.R_away HF3.out.own (fun _ hk e => HF3.out.nog (e ▸ hk)))); clear ho hb hg hat; obtain ⟨A4, n4, c4, rfl⟩ : ∃ A n c, v4 = Value.slice A n c := (by obtain ⟨A, c, h⟩ := Kd.R_slice HO4.out; exact ⟨A, _, c, h⟩); have hh3 := (Qc HK4.out 5).trans (show _ = some (Value.slice A7 n7 c7) from rfl); have hh4 := Qe HK4.out 5; refine hK.out _ _ hh3 (fun hHeld => ?_); clear hK K; refine nN_ 13 ?_; refine pu_ (i := 10) (N := some 14) #[true, true, true, true, true, true, true, true, true, true, true, false, false] ?_; refine pu_ (i := 11) (N := some 15) #[true, true, true, true, true, true, true, true, true, true, true, true, false] ?_; refine Qbb (i := 12) (N := none) (bz_ 13 8191) rfl rfl (Kx HT_.out (by kernel_rfl)) (by decide) (fun K hK => ?_); refine Jz (w1 := ?_) (by rfl) rfl ?_ ?_; rotate_left
 ·go_simp
  rfl
 refine hK.out _ _ ?_; clear hK K; refine Ki (Vq HT_.out (by kernel_rfl)) ?_
 try go_wp2
 go_end0
 have hsz : w.heap.size = wd.heap.size := by rw [← HWD.out]; rfl
 refine ⟨rfl, ⟨.slice A4 n4 c4, ⟨HB4.out.setCell HF3.out.ge _, HF3.out.ge, Za HK4.out 5 _ rfl, Kd.R_far HO4.out (p := ⟨g, 5, none⟩) (fun k hk e => HF3.out.nog (by have e2 : k = g := e; rw [← e2]; exact hk)) _, HF3.out.nog, fun k hk => HF3.out.fresh k (by rw [Kp] at hk; exact Nat.le_trans HG4.out.size hk)⟩⟩, ⟨by rw [Kp, hsz]; exact Nat.le_trans HB3.out.size HG4.out.size, fun k hk hnk hkg => ?_⟩⟩; rw [Below.heap_setCell w4 ⟨g, 5, none⟩ _ k hkg, HG4.out.block k (Nat.lt_of_lt_of_le (by rw [← hsz]; exact hk) HB3.out.size) (Kd.R_away HF3.out.own (fun j hj e => hnk (e ▸ hj))), HB3.out.block k (by rw [← hsz]; exact hk), ← HWD.out]; rfl
def Qen (cls favour : Int) (b1 b2 b3 : List ByteArray) : List ByteArray := if cls = 0 then b1 else if cls = 1 ∨ cls = 3 ∨ (cls = 4 ∧ favour = 1) then b2 else b3
def Qdo (lb : Vz) (style : Int) (jb jl jr : ByteArray) : Yv := if style = 0 then ⟨⟨lb.f0, ⟨#[]⟩, lb.f2⟩, true, ⟨#[]⟩, jl, ⟨#[]⟩, jr, false⟩ else ⟨lb, true, ⟨#[]⟩, jl, jb, jr, true⟩
def Qmg (h : Yv) : Array Value := #[.string h.f0.f0, .string h.f0.f1, .string h.f0.f2, .bool h.f1, .string h.f2, .string h.f3, .string h.f4, .string h.f5, .bool h.f6]
theorem Jd {P : World → Prop} {W : World} {cs : Array Value} {t : TypeId} (h : ∀ W', W'.heap[W.heap.size]? = some (.cells cs t (0, 0)) → Below W.heap.size W W' → P W') : P (W.alloc (.cells cs t (0, 0))) := h _ (Vg W _) (Qh (Below.refl _ _) _)
theorem Qox {w : World} {s : Nat} {z0 z1 z2 z3 z4 z5 z6 z7 z8 : Value} (h : w.heap[s]? = some (.cells #[z0, z1, z2, z3, z4, z5, z6, z7, z8] 120 (0, 0))) (v0 v1 v2 v3 v4 v5 v6 v7 v8 : Value) :
  (((((((((w.setCell ⟨s, 0, none⟩ v0).setCell ⟨s, 1, none⟩ v1).setCell ⟨s, 2, none⟩ v2).setCell ⟨s, 3, none⟩ v3).setCell ⟨s, 4, none⟩ v4).setCell ⟨s, 5, none⟩ v5).setCell ⟨s, 6, none⟩ v6).setCell ⟨s, 7, none⟩ v7).setCell ⟨s, 8, none⟩ v8).heap[s]? = some (.cells #[v0, v1, v2, v3, v4, v5, v6, v7, v8] 120 (0, 0)) := by
 have h0 : (w.setCell ⟨s, 0, none⟩ v0).heap[s]? = some (.cells #[v0, z1, z2, z3, z4, z5, z6, z7, z8] 120 (0, 0)) := Za h 0 v0 rfl; have h1 : ((w.setCell ⟨s, 0, none⟩ v0).setCell ⟨s, 1, none⟩ v1).heap[s]? = some (.cells #[v0, v1, z2, z3, z4, z5, z6, z7, z8] 120 (0, 0)) := Za h0 1 v1 rfl; have h2 : (((w.setCell ⟨s, 0, none⟩ v0).setCell ⟨s, 1, none⟩ v1).setCell ⟨s, 2, none⟩ v2).heap[s]? = some (.cells #[v0, v1, v2, z3, z4, z5, z6, z7, z8] 120 (0, 0)) := Za h1 2 v2 rfl; have h3 : ((((w.setCell ⟨s, 0, none⟩ v0).setCell ⟨s, 1, none⟩ v1).setCell ⟨s, 2, none⟩ v2).setCell ⟨s, 3, none⟩ v3).heap[s]? = some (.cells #[v0, v1, v2, v3, z4, z5, z6, z7, z8] 120 (0, 0)) := Za h2 3 v3 rfl; have h4 : (((((w.setCell ⟨s, 0, none⟩ v0).setCell ⟨s, 1, none⟩ v1).setCell ⟨s, 2, none⟩ v2).setCell ⟨s, 3, none⟩ v3).setCell ⟨s, 4, none⟩ v4).heap[s]? = some (.cells #[v0, v1, v2, v3, v4, z5, z6, z7, z8] 120 (0, 0)) := Za h3 4 v4 rfl; have h5 : ((((((w.setCell ⟨s, 0, none⟩ v0).setCell ⟨s, 1, none⟩ v1).setCell ⟨s, 2, none⟩ v2).setCell ⟨s, 3, none⟩ v3).setCell ⟨s, 4, none⟩ v4).setCell ⟨s, 5, none⟩ v5).heap[s]? = some (.cells #[v0, v1, v2, v3, v4, v5, z6, z7, z8] 120 (0, 0)) := Za h4 5 v5 rfl; have h6 : (((((((w.setCell ⟨s, 0, none⟩ v0).setCell ⟨s, 1, none⟩ v1).setCell ⟨s, 2, none⟩ v2).setCell ⟨s, 3, none⟩ v3).setCell ⟨s, 4, none⟩ v4).setCell ⟨s, 5, none⟩ v5).setCell ⟨s, 6, none⟩ v6).heap[s]? = some (.cells #[v0, v1, v2, v3, v4, v5, v6, z7, z8] 120 (0, 0)) := Za h5 6 v6 rfl; have h7 : ((((((((w.setCell ⟨s, 0, none⟩ v0).setCell ⟨s, 1, none⟩ v1).setCell ⟨s, 2, none⟩ v2).setCell ⟨s, 3, none⟩ v3).setCell ⟨s, 4, none⟩ v4).setCell ⟨s, 5, none⟩ v5).setCell ⟨s, 6, none⟩ v6).setCell ⟨s, 7, none⟩ v7).heap[s]? = some (.cells #[v0, v1, v2, v3, v4, v5, v6, v7, z8] 120 (0, 0)) := Za h6 7 v7 rfl; have h8 : (((((((((w.setCell ⟨s, 0, none⟩ v0).setCell ⟨s, 1, none⟩ v1).setCell ⟨s, 2, none⟩ v2).setCell ⟨s, 3, none⟩ v3).setCell ⟨s, 4, none⟩ v4).setCell ⟨s, 5, none⟩ v5).setCell ⟨s, 6, none⟩ v6).setCell ⟨s, 7, none⟩ v7).setCell ⟨s, 8, none⟩ v8).heap[s]? = some (.cells #[v0, v1, v2, v3, v4, v5, v6, v7, v8] 120 (0, 0)) := Za h7 8 v8 rfl; exact h8
theorem Qow {w : World} {s : Nat} {z0 z1 z2 z3 z4 z5 z6 z7 z8 : Value} (h : w.heap[s]? = some (.cells #[z0, z1, z2, z3, z4, z5, z6, z7, z8] 120 (0, 0))) (v8 v6 : Value) :
  ((w.setCell ⟨s, 8, none⟩ v8).setCell ⟨s, 6, none⟩ v6).heap[s]? = some (.cells #[z0, z1, z2, z3, z4, z5, v6, z7, v8] 120 (0, 0)) := by
 have h0 : (w.setCell ⟨s, 8, none⟩ v8).heap[s]? = some (.cells #[z0, z1, z2, z3, z4, z5, z6, z7, v8] 120 (0, 0)) := Za h 8 v8 rfl; exact Za h0 6 v6 rfl
theorem Uq {w wd w' : World} (h : Below w.heap.size w wd) (h' : Below wd.heap.size wd w') : Below w.heap.size w w' := Qj h h'
def Xc.T4 : Bool × List (List Nat × List Nat) := (true, [([], []), ([0], [0]), ([1], [1]), ([2], [2]), ([], []), ([4], [4]), ([], []), ([], []), ([7], [7]), ([8], [8]), ([], []), ([9, 10], [9, 10]), ([5, 6, 11], [5, 6, 11]), ([12], [12]), ([], []), ([14], [14]), ([], []), ([], []), ([17], [17]), ([18], [18]), ([], []), ([19, 20], [19, 20]), ([15, 16, 21], [15, 16, 21]), ([22, 13], [22]), ([3, 13, 23], [3, 13, 23]), ([], []), ([25, 24, 23, 0, 1, 2, 3, 4, 5, 6, 7, 8, 9, 10, 11, 12, 13, 14, 15, 16, 17, 18, 19, 20, 21, 22, 23, 24, 25], [24, 25])])
def Xc.B4 : List Nat := [0, 1, 3, 7, 0, 16, 0, 0, 128, 384, 0, 1920, 4080, 8176, 0, 16384, 0, 0, 131072, 393216, 0, 1966080, 4177920, 8388592, 16777215, 0, 67108863]
theorem Xc.tab4 : Vx .any (Jb Try.f137 4) = Xc.T4 := by kernel_rfl
theorem Xc.bits4 : Vk Xc.T4.2 Xc.B4 = true := by kernel_rfl
def Xc.T9 : Bool × List (List Nat × List Nat) := (true, [([], []), ([], []), ([1], [1]), ([2], [2]), ([3], [3]), ([], []), ([5], [5]), ([4, 6], [4, 6]), ([0, 0, 1, 2, 3, 4, 5, 6, 7], [0]), ([8, 0, 1, 2, 3, 4, 5, 6, 7], [8]), ([9, 7, 7, 0, 1, 2, 3, 4, 5, 6, 7], [7, 9])])
def Xc.B9 : List Nat := [0, 0, 2, 6, 14, 0, 32, 126, 255, 511, 1023]
theorem Xc.tab9 : Vx .any (Jb Try.f137 9) = Xc.T9 := by kernel_rfl
theorem Xc.bits9 : Vk Xc.T9.2 Xc.B9 = true := by kernel_rfl
theorem Bld.cut {w0 w w1 w7 : World} {g : Nat} {ok : Nat → Prop} {v v7 v8 v9 : Value} {lb : Vz} {st fa : Int} {l : List Yv} {o7 o8 o9 : Nat → Prop} {b1 b2 b3 : List ByteArray} (h : Bld w0 w g ok v lb st fa l) (hb : Below w.heap.size w w7) (hs : w.heap.size ≤ w1.heap.size)
  (h7 : Kd.R Kd.string 9 w7 w1.heap.size o7 v7 b1) (h8 : Kd.R Kd.string 9 w7 w1.heap.size o8 v8 b2) (h9 : Kd.R Kd.string 9 w7 w1.heap.size o9 v9 b3) :
  Bld w0 w7 g (fun k => ok k ∧ ¬ (some k = v7.ownBlock ∨ some k = v8.ownBlock ∨ some k = v9.ownBlock)) v lb st fa l := by
 refine ⟨Qj h.below hb, h.ge, (hb.block g (Zu h.blk)).trans h.blk, ?_, fun e => h.nog e.1, fun k hk => ⟨h.fresh k (Nat.le_trans hb.size hk), ?_⟩⟩
 ·refine Kd.R_mono (Kd.R_below (Kd.R_bound h.own) hb) (fun k hk => ⟨hk.1, ?_⟩)
  have hlt := hk.2.2.1; rintro (e | e | e)
  ·have := Kd.R_base h7 k e.symm; omega
  ·have := Kd.R_base h8 k e.symm; omega
  ·have := Kd.R_base h9 k e.symm; omega
 ·rintro (e | e | e)
  ·have := Kd.R_lt h7 k e.symm; omega
  ·have := Kd.R_lt h8 k e.symm; omega
  ·have := Kd.R_lt h9 k e.symm; omega
theorem Qbt {w7 : World} {base g : Nat} {ok o7 Q : Nat → Prop} {A : Option Addr} {c : Nat} {b : List ByteArray} (hg : g < base) (h : Kd.R Kd.string 9 w7 base o7 (.slice A b.length c) b) (hQ : ∀ k, some k = (Value.slice A b.length c).ownBlock → Q k) :
  Kd.F Kd.string w7 (fun k => ¬ (ok k ∧ ¬ Q k) ∧ k ≠ g) A b.length b :=
 Kd.F_mono (Kd.R_F (Kd.R_tight rfl h)) (fun k hk => ⟨fun e => e.2 (hQ k hk), fun e => by have := Kd.R_base h k hk.symm; omega⟩)
def Qbe (k : Nat) (a b c : ByteArray) (b1 b2 b3 : List ByteArray) (cls : Int) : Option (List Yv × Int) :=
 if cls = 4 then (Vd.f k b2 b3).bind fun nm =>
  if 0 ≤ nm.1 ∧ 0 ≤ nm.2 ∧ nm.1 + nm.2 ≤ b2.length ∧ nm.1 + nm.2 ≤ b3.length then
   (Zy.f k b1).bind fun jb => (Zy.f k ((b2.take ((b2.length : Int) - nm.2).toNat).drop nm.1.toNat)).bind fun jl => (Zy.f k ((b3.take ((b3.length : Int) - nm.2).toNat).drop nm.1.toNat)).bind fun jr =>
   (Zy.f k (b2.take nm.1.toNat)).bind fun s1 => (Zy.f k (b2.drop ((b2.length : Int) - nm.2).toNat)).bind fun s3 =>
   (Yo.f k ([] ++ [Yn s1, Qdo ⟨a, b, c⟩ 2 jb jl jr, Yn s3])).bind fun d => some (d, 0)
  else none
 else none
theorem Qbe.mono (a b c : ByteArray) (b1 b2 b3 : List ByteArray) (cls : Int) (k : Nat) : LeO (Qbe k a b c b1 b2 b3 cls) (Qbe (k + 1) a b c b1 b2 b3 cls) := by
 unfold Qbe
 repeat' first
  | exact Vd.mono _ _ _
  | exact Zy.mono _ _
  | exact Yo.mono _ _
  | exact LeO.none _
  | exact LeO.refl _
  | refine LeO.ite ?_ ?_
  | refine LeO.bind ?_ (fun _ => ?_)
end Go.Proofs.Ytadafplbgophfaa.PA
end
section
namespace Go.Proofs.Ytadafplbgophfaa.PA
open Go.RowKit Go.Proofs.YtadafplbgophfaaW.PrintWords Go.Proofs.YtadafplbgophfaaW.PrintLast Go.Proofs.YtadafplbgophfaaW.PrintMore
namespace FavT
def Qbr (l : List ByteArray) : List UInt8 := l.flatMap (·.data.toList)
def cat (l : List ByteArray) : ByteArray := ⟨(Qbr l).toArray⟩
theorem Qcp : Qbr [] = [] := rfl
theorem Qat (x : ByteArray) (l : List ByteArray) : Qbr (x :: l) = x.data.toList ++ Qbr l := by simp [Qbr]
theorem Qqi (s : ByteArray) : s.data.toList.length = s.size := by simp
theorem Qgi (n : Nat) : ∀ (l : List ByteArray), (∀ x ∈ l, x.size ≤ n) → (Qbr l).length ≤ l.length * n
 | [], _ => by simp [Qbr]
 | x :: l, h => by
  have h1 := h x (List.mem_cons_self ..); have h2 := Qgi n l (fun y hy => h y (List.mem_cons_of_mem _ hy)); rw [Qat, List.length_append, Qqi, List.length_cons, Nat.succ_mul]
  omega
theorem Qka (l : List ByteArray) : Qgr l ⟨#[]⟩ = Qbr l := by
 unfold Qgr
 cases l with
 | nil => rfl
 | cons x r =>
  rw [List.map_cons, Lib.join_cons, Qat]
  congr 1
  unfold Lib.joinTail Qbr; rw [List.flatMap_def]
  congr 1
  simp
theorem Qip (k : Nat) (l : List ByteArray) (h : l.length ≤ 1000) (hz : ∀ x ∈ l, x.size ≤ 200) : Zy.f k l = some (cat l) := by
 have := Qgi 200 l hz; unfold Zy.f Vy.f; rw [Qka, if_pos ⟨by omega, by omega⟩]; rfl
theorem Qep (k : Nat) (a b : Int) (l : List ByteArray) (h : l.length ≤ 1000) : Xs.f k a b l = some (Zs.f a b l) := by
 unfold Xs.f Zs.f Xw.f
 by_cases h1 : a < 0
 ·rw [if_pos h1, if_pos h1]
 ·rw [if_neg h1, if_neg h1]
  by_cases h2 : b > (l.length : Int)
  ·rw [if_pos h2, if_pos h2]
  ·rw [if_neg h2, if_neg h2]
   by_cases h3 : b < a
   ·rw [if_pos h3, if_pos h3]
   ·rw [if_neg h3, if_neg h3, if_pos (by omega), if_pos (by omega), if_pos (by omega), if_pos (by rw [List.length_drop, List.length_take]; omega)]
    rfl
theorem cut_len (a b : Int) (l : List ByteArray) : (Zs.f a b l).length ≤ l.length := by
 unfold Zs.f
 repeat' split
 all_goals first | exact Nat.zero_le _ | (rw [List.length_drop, List.length_take]; omega)
theorem Qct (a b : Int) (l : List ByteArray) : ∀ x ∈ Zs.f a b l, x ∈ l := by
 unfold Zs.f
 repeat' split
 all_goals intro x hx
 all_goals first | (simp at hx; done) | exact List.mem_of_mem_take (List.mem_of_mem_drop hx)
theorem Qfv (a b : List ByteArray) {i : Nat} (ha : i < a.length) (hb : i < b.length) : (a.drop i = b.drop i) ↔ (a[i] = b[i] ∧ a.drop (i + 1) = b.drop (i + 1)) := by
 rw [List.drop_eq_getElem_cons ha, List.drop_eq_getElem_cons hb, List.cons.injEq]
theorem Jx (l : List ByteArray) {i : Nat} (h : i < l.length) : Ye ByteArray.empty l (i : Int) = l[i] := by simp [Ye, List.getD_eq_getElem?_getD, h]
theorem Qqe (a b : List ByteArray) (ha : a.length ≤ 1000) : Ev (fun k => Zk.f k a b) (decide (a = b)) := by
 by_cases hl : a.length = b.length
 ·refine Ev.congr (f := fun k => Zk.l0 k a b (a.length : Int) ((0 : Nat) : Int)) (fun k => by unfold Zk.f; rw [if_pos (by omega)]; rfl) ?_
  have := Chk.down (P := fun i => Ev (fun k => Zk.l0 k a b (a.length : Int) (i : Int)) (decide (a.drop i = b.drop i))) a.length (by
   refine Ev.step (f := fun _ => some true) (fun k => ?_) (by rw [List.drop_of_length_le (Nat.le_refl _), List.drop_of_length_le (by omega)]; exact Ev.now _)
   simp only [Zk.l0]; rw [if_neg (by omega)]) (fun i hi ih => by
   have hib : i < b.length := by omega
   by_cases he : a[i] = b[i]
   ·refine Ev.step (f := fun k => Zk.l0 k a b (a.length : Int) ((i + 1 : Nat) : Int)) (fun k => ?_) (by
     rw [show decide (a.drop i = b.drop i) = decide (a.drop (i + 1) = b.drop (i + 1)) from by congr 1; exact propext ((Qfv a b hi hib).trans ⟨fun h => h.2, fun h => ⟨he, h⟩⟩)]; exact ih)
    simp only [Zk.l0]; rw [if_pos (by omega), if_pos (by omega), if_pos (by omega), if_pos (by omega), Jx a hi, Jx b hib, if_pos (by rw [he]), Qjt (by omega)]
   ·refine Ev.step (f := fun k => some false) (fun k => ?_) (by
     rw [decide_eq_false (fun h => he ((Qfv a b hi hib).1 h).1)]; exact Ev.now _)
    simp only [Zk.l0]
    rw [if_pos (by omega), if_pos (by omega), if_pos (by omega), if_pos (by omega), Jx a hi, Jx b hib, if_neg (fun h => he (Qhj.1 h))]) 0 (Nat.zero_le _)
  rw [List.drop_zero, List.drop_zero] at this
  exact this
 ·rw [decide_eq_false (fun h => hl (by rw [h]))]
  exact Ev.congr (fun k => if_neg (by omega)) (Ev.now _)
theorem Qef (a b : List ByteArray) (ha : a.length ≤ 1000) : Ev (fun k => Zp.f k a b) (decide (a = b)) := by
 by_cases hl : a.length = b.length
 ·refine Ev.congr (f := fun k => Zp.l0 k a b ((0 : Nat) : Int)) (fun k => by unfold Zp.f; rw [if_pos (by omega)]; rfl) ?_
  have := Chk.down (P := fun i => Ev (fun k => Zp.l0 k a b (i : Int)) (decide (a.drop i = b.drop i))) a.length (by
   refine Ev.step (f := fun _ => some true) (fun k => ?_) (by rw [List.drop_of_length_le (Nat.le_refl _), List.drop_of_length_le (by omega)]; exact Ev.now _)
   simp only [Zp.l0]; rw [if_neg (by omega)]) (fun i hi ih => by
   have hib : i < b.length := by omega
   by_cases he : a[i] = b[i]
   ·refine Ev.step (f := fun k => Zp.l0 k a b ((i + 1 : Nat) : Int)) (fun k => ?_) (by
     rw [show decide (a.drop i = b.drop i) = decide (a.drop (i + 1) = b.drop (i + 1)) from by congr 1; exact propext ((Qfv a b hi hib).trans ⟨fun h => h.2, fun h => ⟨he, h⟩⟩)]; exact ih)
    simp only [Zp.l0]; rw [if_pos (by omega), if_pos (by omega), if_pos (by omega), Jx a hi, Jx b hib, if_pos (by rw [he]), Qjt (by omega)]
   ·refine Ev.step (f := fun k => some false) (fun k => ?_) (by
     rw [decide_eq_false (fun h => he ((Qfv a b hi hib).1 h).1)]; exact Ev.now _)
    simp only [Zp.l0]
    rw [if_pos (by omega), if_pos (by omega), if_pos (by omega), Jx a hi, Jx b hib, if_neg (fun h => he (Qhj.1 h))]) 0 (Nat.zero_le _)
  rw [List.drop_zero, List.drop_zero] at this
  exact this
 ·rw [decide_eq_false (fun h => hl (by rw [h]))]
  exact Ev.congr (fun k => if_neg (by omega)) (Ev.now _)
def cls (st : Bool) (x y z : List ByteArray) : Int := if st = true then 0 else if x = y then 2 else if x = z then 1 else if y = z then 3 else 4
theorem Qgk (st : Bool) (x y z : List ByteArray) : cls st x y z = 0 ∨ cls st x y z = 1 ∨ cls st x y z = 2 ∨ cls st x y z = 3 ∨ cls st x y z = 4 := by
 unfold cls; repeat' split
 all_goals simp
theorem Qes {α : Type} {p : Prop} [Decidable p] {f g : Nat → Option α} {a b : α} (h1 : Ev f a) (h2 : Ev g b) : Ev (fun k => if decide p = true then f k else g k) (if p then a else b) := by
 by_cases h : p
 ·rw [if_pos h]; exact Ev.congr (fun k => if_pos (decide_eq_true h)) h1
 ·rw [if_neg h]; exact Ev.congr (fun k => if_neg (by simp [h])) h2
theorem Qmh (st : Bool) (x y z : List ByteArray) (hx : x.length ≤ 1000) (hy : y.length ≤ 1000) : Ev (fun k => Xp.g k st x y z) (cls st x y z) := by
 unfold cls Xp.g
 cases st with
 | true => exact Ev.now _
 | false =>
  exact Ev.bind (Qef x y hx) (Qes (Ev.now _) (Ev.bind (Qef x z hx) (Qes (Ev.now _) (Ev.bind (Qef y z hy) (Qes (Ev.now _) (Ev.now _))))))
theorem Qhl (a b : List ByteArray) (ha : a.length ≤ 1000) : Ev (fun k => Yy.f k a b) (decide (a = b)) := Ev.bind (Qqe a b ha) (Ev.now _)
section
variable (l0 l1 l2 : List ByteArray)
def cA (c : S81) := Zs.f c.f1.f0 c.f1.f1 l0
def cB (c : S81) := Zs.f c.f2.f0 c.f2.f1 l1
def cC (c : S81) := Zs.f c.f3.f0 c.f3.f1 l2
def kls (c : S81) : Int := cls c.f0 (cA l0 c) (cB l1 c) (cC l2 c)
def up (c : S81) : S78 := ⟨c.f0, ⟨c.f1.f0, c.f1.f1⟩, ⟨c.f2.f0, c.f2.f1⟩, ⟨c.f3.f0, c.f3.f1⟩⟩
variable {l0 l1 l2} (n0 : l0.length ≤ 200) (n1 : l1.length ≤ 200) (n2 : l2.length ≤ 200) (z0 : ∀ x ∈ l0, x.size ≤ 200) (z1 : ∀ x ∈ l1, x.size ≤ 200) (z2 : ∀ x ∈ l2, x.size ≤ 200)
include n0 n1 n2
theorem Qlv (c : S81) : Ev (fun k => Xr.f k c.f0 c.f1.f0 c.f1.f1 c.f2.f0 c.f2.f1 c.f3.f0 c.f3.f1 l0 l1 l2) (kls l0 l1 l2 c) := by
 have ha := cut_len c.f1.f0 c.f1.f1 l0; have hb := cut_len c.f2.f0 c.f2.f1 l1
 have ea : ∀ k, Xs.f k c.f1.f0 c.f1.f1 l0 = some (cA l0 c) := fun k => Qep k _ _ _ (by omega)
 have eb : ∀ k, Xs.f k c.f2.f0 c.f2.f1 l1 = some (cB l1 c) := fun k => Qep k _ _ _ (by omega)
 have ec : ∀ k, Xs.f k c.f3.f0 c.f3.f1 l2 = some (cC l2 c) := fun k => Qep k _ _ _ (by omega)
 unfold Xr.f kls cls; simp only [ea, eb, ec, Option.bind_some]
 cases c.f0 with
 | true => exact Ev.now _
 | false =>
  exact Ev.bind (Qhl (cA l0 c) (cB l1 c) (by unfold cA; omega)) (Qes (Ev.now _) (Ev.bind (Qhl (cA l0 c) (cC l2 c) (by unfold cA; omega)) (Qes (Ev.now _) (Ev.bind (Qhl (cB l1 c) (cC l2 c) (by unfold cB; omega)) (Qes (Ev.now _) (Ev.now _))))))
omit n2 in
theorem Qic (c : S81) : Ev (fun k => Xp.f k c.f0 c.f1.f0 c.f1.f1 c.f2.f0 c.f2.f1 c.f3.f0 c.f3.f1 l0 l1 l2) (kls l0 l1 l2 c) := by
 have ha := cut_len c.f1.f0 c.f1.f1 l0; have hb := cut_len c.f2.f0 c.f2.f1 l1; exact Qmh c.f0 _ _ _ (by omega) (by omega)
theorem Qix (c : S81) : Ev (fun k => Xn.f k l0 l1 l2 (up c).f0 (up c).f1.f0 (up c).f1.f1 (up c).f2.f0 (up c).f2.f1 (up c).f3.f0 (up c).f3.f1) (c.f0, c.f1.f0, c.f1.f1, c.f2.f0, c.f2.f1, c.f3.f0, c.f3.f1, cA l0 c, cB l1 c, cC l2 c, kls l0 l1 l2 c) := by
 refine Ev.congr (f := fun k => (Xr.f k c.f0 c.f1.f0 c.f1.f1 c.f2.f0 c.f2.f1 c.f3.f0 c.f3.f1 l0 l1 l2).bind fun t => some (c.f0, c.f1.f0, c.f1.f1, c.f2.f0, c.f2.f1, c.f3.f0, c.f3.f1, cA l0 c, cB l1 c, cC l2 c, t)) (fun k => ?_) (Ev.bind (Qlv n0 n1 n2 c) (Ev.now _)); unfold Xn.f up; rw [Qep k _ _ l0 (by omega), Qep k _ _ l1 (by omega), Qep k _ _ l2 (by omega)]; rfl
include z0 z1 z2
end
theorem Qlf (cs : List S81) (hc : cs.length ≤ 1000) : Ev (fun k => Zq.f k cs) (cs.map up) := by
 have := Chk.down (P := fun i => Ev (fun k => Zq.l0 k cs ((cs.take i).map up) (i : Int)) (cs.map up)) cs.length (by
  refine Ev.step (f := fun _ => some (cs.map up)) (fun k => ?_) (Ev.now _)
  simp only [Zq.l0]; rw [if_neg (by omega), List.take_length]) (fun i hi ih => by
  refine Ev.step (f := fun k => Zq.l0 k cs ((cs.take (i + 1)).map up) ((i + 1 : Nat) : Int)) (fun k => ?_) ih
  have e : Vt cs (i : Int) = cs[i] := by simp [Vt, List.getD_eq_getElem?_getD, hi]
  simp only [Zq.l0]; rw [if_pos (by omega), if_pos (by omega), e]
  show (if ((cs.take i).map up).length < 2513169434916 then _ else _) = _
  rw [if_pos (by rw [List.length_map, List.length_take]; omega), Qjt (by omega), List.take_succ_eq_append_getElem hi, List.map_append]
  rfl) 0 (Nat.zero_le _)
 exact this
theorem to_ok (l0 l1 l2 : List ByteArray) (n0 : l0.length ≤ 200) (n1 : l1.length ≤ 200) (n2 : l2.length ≤ 200) : Yj.f l0 l1 l2 = some (l0, l1, l2) := by
 unfold Yj.f; simp only [Option.bind_some, List.nil_append, List.length_nil]; rw [if_pos (by omega), if_pos (by omega), if_pos (by omega)]
theorem Qem (a b : ByteArray) : (a ++ b).data.toList = a.data.toList ++ b.data.toList := by simp
theorem Qij {a b : ByteArray} (h : a.data.toList = b.data.toList) : a = b := by
 cases a; cases b; simp at h; simp [h]
theorem Qjr (l : List ByteArray) (hn : l.length ≤ 1000) (hz : ∀ t ∈ l, t.size ≤ 1000000) : Ev (fun k => Zg.f k l) (cat l) := by
 have key : ∀ (n i : Nat) (x : ByteArray), l.length - i ≤ n → i ≤ l.length → x.size ≤ i * 1000000 → Ev (fun k => Zg.l0 k l x i) ⟨(x.data.toList ++ Qbr (l.drop i)).toArray⟩ := by
  intro n
  induction n with
  | zero =>
   intro i x h1 h2 h3; refine Ev.step (f := fun _ => some x) (fun k => ?_) ?_
   ·simp only [Zg.l0]; rw [if_neg (by omega)]
   ·rw [List.drop_of_length_le (by omega), Qcp, List.append_nil]; exact Ev.now _
  | succ n ih =>
   intro i x h1 h2 h3
   by_cases hi : i < l.length
   rotate_left
   ·refine Ev.step (f := fun _ => some x) (fun k => ?_) ?_
    ·simp only [Zg.l0]; rw [if_neg (by omega)]
    ·rw [List.drop_of_length_le (by omega), Qcp, List.append_nil]; exact Ev.now _
   have hzi := hz _ (List.getElem_mem hi); have e := Jx l hi; have ihn := ih (i + 1) (x ++ l[i]) (by omega) (by omega) (by rw [ByteArray.size_append]; omega); rw [List.drop_eq_getElem_cons hi, Qat]
   rw [Qem, List.append_assoc] at ihn
   refine Ev.step (fun k => ?_) ihn; simp only [Zg.l0]; rw [if_pos (by omega), if_pos (by omega), e, if_pos (by omega), Qjt (by omega)]
 exact key l.length 0 ⟨#[]⟩ (by omega) (by omega) (Nat.zero_le 0)
end FavT
end Go.Proofs.Ytadafplbgophfaa.PA
end
section
namespace Go.Proofs.Ytadafplbgophfaa.Pure
namespace D7
open Res Go.RowKit Go.Proofs.Ytadafplbgophfaa.PA Go.Proofs.YtadafplbgophfaaW.PrintWords Go.Proofs.YtadafplbgophfaaW.PrintLast Go.Proofs.YtadafplbgophfaaW.PrintMore
def emp (s : ByteArray) : Bool := s.toList == []
theorem Qcd {s : ByteArray} : s.toList = [] ↔ emp s = true := by unfold emp; exact (beq_iff_eq).symm
def Um (p : Xi) : Bool := (emp p.f0 && (emp p.f1 && emp p.f2)) && (!p.f3 && (emp p.f5 && (emp p.f6 && (emp p.f7 && !p.f8))))
def Qdg (p : Xi) : Bool := p.f3 && (emp p.f4 && (p.f8 || (emp p.f6 && emp p.f1)))
theorem Qjb {p : Xi} (h : Um p = true) : p.f3 = false := by
 cases e : p.f3
 ·rfl
 ·simp [Um, e] at h
theorem Qpj {p : Xi} (h : Qdg p = true) : p.f3 = true := by
 cases e : p.f3
 ·simp [Qdg, e] at h
 ·rfl
def Jr : Bool → List Xi → Bool
 | _, [] => true
 | prev, p :: r => if Um p = true then plP p && (!prev && (!(emp p.f4) && ((r.isEmpty || Up p.f4) && Jr true r))) else (if Qdg p = true then plP p && Jr false r else false)
theorem Qhw (p : Xi) : Zv.f p.f0 p.f1 p.f2 p.f3 p.f4 p.f5 p.f6 p.f7 p.f8 = some (Um p) := rfl
theorem Qkt (a b : ByteArray) : ((a ++ b).toList == []) = (emp a && emp b) := by
 unfold emp; rw [ByteArray.toList_eq, ByteArray.toList_eq, ByteArray.toList_eq, show (a ++ b).data.toList = a.data.toList ++ b.data.toList by simp [ByteArray.data_append]]
 cases a.data.toList <;> simp
theorem Qho (p : Xi) (h : szs p ≤ 10000000000) : Vh.f p.f0 p.f1 p.f2 p.f3 p.f4 p.f5 p.f6 p.f7 p.f8 = some (Qdg p) := by
 unfold Vh.f Qdg
 unfold szs at h
 by_cases h3 : p.f3 = true
 ·rw [if_pos h3, h3, Bool.true_and]
  by_cases h4 : p.f4.toList = []
  ·rw [if_pos h4, Qcd.1 h4, Bool.true_and]
   by_cases h8 : p.f8 = true
   ·rw [if_pos h8, h8, Bool.true_or]
   ·rw [if_neg h8, if_pos (by omega), Qkt]
    have : p.f8 = false := by simpa using h8
    rw [this, Bool.false_or]
  ·rw [if_neg h4]
   have : emp p.f4 = false := by
    cases e : emp p.f4
    ·rfl
    ·exact absurd (Qcd.2 e) h4
   rw [this, Bool.false_and]
 ·rw [if_neg h3]
  have : p.f3 = false := by simpa using h3
  rw [this, Bool.false_and]
theorem Qkg (d : List Xi) (hd : d.length ≤ 10000) (hs : ∀ p ∈ d, szs p ≤ 10000000000) : ∀ (n i : Nat) (prev : Bool), d.length - i ≤ n → i ≤ d.length →
  Ev (fun k => Zb.l0 k (d.map Yu) prev (d.map Yu) ((d.map Yu).length : Int) i) (Jr prev (d.drop i)) := by
 have hx : (d.map Yu).length = d.length := List.length_map _; intro n
 induction n with
 | zero =>
  intro i prev h1 h2; refine Ev.step (f := fun _ => some true) (fun k => ?_) ?_
  ·simp only [Zb.l0]; rw [if_neg (by omega)]
  ·rw [List.drop_of_length_le (by omega)]; exact Ev.now _
 | succ n ih =>
  intro i prev h1 h2
  by_cases hi : i < d.length
  rotate_left
  ·refine Ev.step (f := fun _ => some true) (fun k => ?_) ?_
   ·simp only [Zb.l0]; rw [if_neg (by omega)]
   ·rw [List.drop_of_length_le (by omega)]; exact Ev.now _
  have hp := hs d[i] (List.getElem_mem hi)
  have hemp : (d.drop (i + 1)).isEmpty = decide (d.length ≤ i + 1) := by
   by_cases h : d.length ≤ i + 1
   ·rw [List.drop_of_length_le h, decide_eq_true h]; rfl
   ·rw [decide_eq_false h, List.drop_eq_getElem_cons (by omega)]; rfl
  have ih1 := fun b => ih (i + 1) b (by omega) (by omega)
  rw [List.drop_eq_getElem_cons hi]; have rdp := Qla hi
  generalize d[i] = p at hp rdp
  have hz := hp
  unfold szs at hz
  -- the last part
  have J2 : Ev (fun k => Zb.j2 k (d.map Yu) prev i (d.map Yu) ((d.map Yu).length : Int) i false p.f0 p.f1 p.f2 p.f3 p.f4 p.f5 p.f6 p.f7 p.f8)
    (if Um p = true then (!prev && (!(emp p.f4) && (((d.drop (i + 1)).isEmpty || Up p.f4) && Jr true (d.drop (i + 1))))) else Jr false (d.drop (i + 1))) := by
   refine Ev.step (f := fun k => (some (Um p)).bind fun a0 => (if a0 = true then (if prev = true then (some false) else (if p.f4.toList = ([] : List UInt8) then (some false) else (if (i : Int) < (wrap64 (((d.map Yu).length : Int) - 1)) then ((some (Up p.f4)).bind fun a3 => (if a3 = true then ((some (Um p)).bind fun a4 => (Zb.l0 k (d.map Yu) a4 (d.map Yu) ((d.map Yu).length : Int) (wrap64 ((i : Int) + 1)))) else (some false))) else ((some (Um p)).bind fun a5 => (Zb.l0 k (d.map Yu) a5 (d.map Yu) ((d.map Yu).length : Int) (wrap64 ((i : Int) + 1))))))) else ((some (Um p)).bind fun a6 => (Zb.l0 k (d.map Yu) a6 (d.map Yu) ((d.map Yu).length : Int) (wrap64 ((i : Int) + 1)))))) (fun k => ?_) ?_
   ·simp only [Zb.j2]; rw [if_neg (by decide), Qlc _ (by omega)]; rfl
   ·rw [Res.w64 (by omega) (by omega), Res.w64 (by omega) (by omega)]
    cases ht : Um p
    ·refine Ev.congr (fun k => by rw [Option.bind_some, if_neg (by decide), Option.bind_some]) ?_
     rw [if_neg (by decide)]; exact ih1 false
    ·rw [if_pos rfl]
     cases prev
     ·by_cases h4 : p.f4.toList = []
      ·refine Ev.congr (f := fun _ => some false) (fun k => by rw [Option.bind_some, if_pos rfl, if_neg (by decide), if_pos h4]) ?_
       rw [Qcd.1 h4]; exact Ev.now _
      ·have e4 : emp p.f4 = false := by
        cases e : emp p.f4
        ·rfl
        ·exact absurd (Qcd.2 e) h4
       rw [e4]; simp only [Bool.not_false, Bool.true_and]
       by_cases hl : d.length ≤ i + 1
       ·refine Ev.congr (f := fun k => Zb.l0 k (d.map Yu) true (d.map Yu) ((d.map Yu).length : Int) ((i : Int) + 1)) (fun k => by rw [Option.bind_some, if_pos rfl, if_neg (by decide), if_neg h4, if_neg (by omega), Option.bind_some]) ?_
        rw [hemp, decide_eq_true hl, Bool.true_or, Bool.true_and]; exact ih1 true
       ·rw [hemp, decide_eq_false hl, Bool.false_or]
        cases he : Up p.f4
        ·refine Ev.congr (f := fun _ => some false) (fun k => by rw [Option.bind_some, if_pos rfl, if_neg (by decide), if_neg h4, if_pos (by omega), Option.bind_some, if_neg (by decide)]) ?_
         exact Ev.now _
        ·refine Ev.congr (f := fun k => Zb.l0 k (d.map Yu) true (d.map Yu) ((d.map Yu).length : Int) ((i : Int) + 1)) (fun k => by rw [Option.bind_some, if_pos rfl, if_neg (by decide), if_neg h4, if_pos (by omega), Option.bind_some, if_pos rfl, Option.bind_some]) ?_
         rw [Bool.true_and]; exact ih1 true
     ·refine Ev.congr (f := fun _ => some false) (fun k => by rw [Option.bind_some, if_pos rfl, if_pos rfl]) ?_
      exact Ev.now _
  have J2f : Ev (fun k => Zb.j2 k (d.map Yu) prev i (d.map Yu) ((d.map Yu).length : Int) i true p.f0 p.f1 p.f2 p.f3 p.f4 p.f5 p.f6 p.f7 p.f8) false :=
   Ev.step (f := fun _ => some false) (fun k => by simp only [Zb.j2]; rw [if_pos trivial]) (Ev.now _)
  have J1 : Ev (fun k => Zb.j1 k (d.map Yu) prev i (d.map Yu) ((d.map Yu).length : Int) i false p.f0 p.f1 p.f2 p.f3 p.f4 p.f5 p.f6 p.f7 p.f8)
    (plP p && (if Um p = true then (!prev && (!(emp p.f4) && (((d.drop (i + 1)).isEmpty || Up p.f4) && Jr true (d.drop (i + 1))))) else Jr false (d.drop (i + 1)))) := by
   refine Ev.step (f := fun k => (Xt.f k p.f0 p.f1 p.f2).bind fun a7 => Zb.j2 k (d.map Yu) prev i (d.map Yu) ((d.map Yu).length : Int) i (!a7) p.f0 p.f1 p.f2 p.f3 p.f4 p.f5 p.f6 p.f7 p.f8) (fun k => ?_) ?_
   ·simp only [Zb.j1]; rw [if_neg (by decide)]
   ·refine Ev.bind (Qhu p (by omega) (by omega) (by omega)) ?_
    cases plP p
    ·exact J2f
    ·rw [Bool.true_and]; exact J2
  have J1f : Ev (fun k => Zb.j1 k (d.map Yu) prev i (d.map Yu) ((d.map Yu).length : Int) i true p.f0 p.f1 p.f2 p.f3 p.f4 p.f5 p.f6 p.f7 p.f8) false :=
   Ev.step (f := fun k => Zb.j2 k (d.map Yu) prev i (d.map Yu) ((d.map Yu).length : Int) i true p.f0 p.f1 p.f2 p.f3 p.f4 p.f5 p.f6 p.f7 p.f8) (fun k => by simp only [Zb.j1]; rw [if_pos trivial]) J2f
  refine Ev.step (f := fun k => (some (Um p)).bind fun a8 => (if a8 = true then (Zb.j1 k (d.map Yu) prev i (d.map Yu) ((d.map Yu).length : Int) i false p.f0 p.f1 p.f2 p.f3 p.f4 p.f5 p.f6 p.f7 p.f8) else ((some (Qdg p)).bind fun a9 => (Zb.j1 k (d.map Yu) prev i (d.map Yu) ((d.map Yu).length : Int) i (!a9) p.f0 p.f1 p.f2 p.f3 p.f4 p.f5 p.f6 p.f7 p.f8)))) (fun k => ?_) ?_
  ·simp only [Zb.l0]
   rw [if_pos (by omega), if_pos (by omega), if_pos (by omega), rdp, ← Qho p hp]; rfl
  ·unfold Jr
   cases ht : Um p
   ·rw [if_neg (by decide)]
    refine Ev.congr (fun k => by rw [Option.bind_some, if_neg (by decide), Option.bind_some]) ?_
    rw [ht, if_neg (by decide)] at J1
    cases Qdg p
    ·rw [if_neg (by decide)]; exact J1f
    ·rw [if_pos rfl]; exact J1
   ·rw [if_pos rfl]
    refine Ev.congr (fun k => by rw [Option.bind_some, if_pos rfl]) ?_
    rw [ht, if_pos rfl] at J1
    exact J1
theorem Qhr (d : List Xi) (hd : d.length ≤ 10000) (hs : ∀ p ∈ d, szs p ≤ 10000000000) : Ev (fun k => Zb.f k (d.map Yu)) (Jr false d) := by
 have := Qkg d hd hs d.length 0 false (by omega) (by omega)
 rw [List.drop_zero] at this
 exact this
def Qcw (p : Yv) : Xi := ⟨p.f0.f0, p.f0.f1, p.f0.f2, p.f1, p.f2, p.f3, p.f4, p.f5, p.f6⟩
theorem Qns (d : List Yv) (hd : d.length ≤ 10000) : ∀ (n i : Nat) (acc : List Xi), d.length - i ≤ n → i ≤ d.length → acc.length ≤ i → Ev (fun k => Zz.l0 k d acc i) (acc ++ (d.drop i).map Qcw) := by
 intro n
 induction n with
 | zero =>
  intro i acc h1 h2 h3; refine Ev.step (f := fun _ => some acc) (fun k => ?_) ?_
  ·simp only [Zz.l0]; rw [if_neg (by omega)]
  ·rw [List.drop_of_length_le (by omega), List.map_nil, List.append_nil]; exact Ev.now _
 | succ n ih =>
  intro i acc h1 h2 h3
  by_cases hi : i < d.length
  ·rw [List.drop_eq_getElem_cons hi]
   have rdp := Qpb hi; have ih1 := ih (i + 1) (acc ++ [Qcw d[i]]) (by omega) (by omega) (by simp; omega)
   generalize d[i] = p at rdp ih1
   refine Ev.step (f := fun k => Zz.l0 k d (acc ++ [Qcw p]) ((i : Int) + 1)) (fun k => ?_) ?_
   ·simp only [Zz.l0]; rw [if_pos (by omega), if_pos (by omega), rdp, Res.w64 (by omega) (by omega)]
    unfold Uf.f; rw [Option.bind_some, if_pos (by omega)]; rfl
   ·rw [List.append_assoc, List.singleton_append] at ih1
    rw [List.map_cons]; exact ih1
  ·refine Ev.step (f := fun _ => some acc) (fun k => ?_) ?_
   ·simp only [Zz.l0]; rw [if_neg (by omega)]
   ·rw [List.drop_of_length_le (by omega), List.map_nil, List.append_nil]; exact Ev.now _
theorem Qnt (d : List Yv) (hd : d.length ≤ 10000) : Ev (fun k => Zz.f k d) (d.map Qcw) := by
 have := Qns d hd d.length 0 [] (by omega) (by omega) (by simp)
 rw [List.drop_zero, List.nil_append] at this
 exact this
theorem Qoe (d : List Xi) : (d.map Yu).map Qcw = d := by
 rw [List.map_map]
 have : Qcw ∘ Yu = id := by funext p; rfl
 rw [this, List.map_id]
theorem Qnu (d : List Xi) (hd : d.length ≤ 10000) : ∀ (n i : Nat), d.length - i ≤ n → i ≤ d.length → Ev (fun k => Xa.l0 k d d i) true := by
 intro n
 induction n with
 | zero =>
  intro i h1 h2; refine Ev.step (f := fun _ => some true) (fun k => ?_) (Ev.now _); simp only [Xa.l0]; rw [if_neg (by omega)]
 | succ n ih =>
  intro i h1 h2
  by_cases hi : i < d.length
  ·refine Ev.step (f := fun k => Xa.l0 k d d ((i : Int) + 1)) (fun k => ?_) (ih (i + 1) (by omega) (by omega))
   simp only [Xa.l0]; rw [if_pos (by omega), if_pos (by omega), if_pos (by omega), Res.w64 (by omega) (by omega)]; simp only [beq_self_eq_true, Bool.not_true, Bool.or_false, Bool.false_eq_true, if_false]
  ·refine Ev.step (f := fun _ => some true) (fun k => ?_) (Ev.now _)
   simp only [Xa.l0]; rw [if_neg (by omega)]
theorem Qnv (d : List Xi) (hd : d.length ≤ 10000) : Ev (fun k => Xa.f k d d) true := by
 refine Ev.congr (f := fun k => Xa.l0 k d d ((0 : Nat) : Int)) (fun k => ?_) (Qnu d hd d.length 0 (by omega) (by omega)); unfold Xa.f; rw [if_pos rfl]; rfl
def Uh : List Xi → Nat
 | [] => 0
 | p :: d => szs p + Uh d
theorem Qot {d : List Xi} : ∀ p ∈ d, szs p ≤ Uh d := by
 induction d with
 | nil => intro p hp; cases hp
 | cons q d ih =>
  intro p hp; unfold Uh
  rcases List.mem_cons.1 hp with rfl | h
  ·omega
  ·have := ih p h; omega
theorem Qpf (d : List Xi) (hd : d.length ≤ 60) (hs : ∀ p ∈ d, szs p ≤ 1000000000000000) : ∀ (n i : Nat) (x : Nat), d.length - i ≤ n → i ≤ d.length → x ≤ i * 1000000000000000 → Ev (fun k => Xe.l0 k d (x : Int) i) (decide (x + Uh (d.drop i) ≤ 3000)) := by
 intro n
 induction n with
 | zero =>
  intro i x h1 h2 h3; refine Ev.step (f := fun _ => some (decide ((x : Int) ≤ 3000))) (fun k => ?_) ?_
  ·simp only [Xe.l0]; rw [if_neg (by omega), if_pos (by omega)]
  ·rw [List.drop_of_length_le (by omega)]
   have : decide ((x : Int) ≤ 3000) = decide (x + Uh [] ≤ 3000) := by simp only [Uh]; exact decide_eq_decide.2 (by omega)
   rw [this]; exact Ev.now _
 | succ n ih =>
  intro i x h1 h2 h3
  by_cases hi : i < d.length
  ·have hp := hs d[i] (List.getElem_mem hi)
   have rdp := Qng hi; rw [List.drop_eq_getElem_cons hi]; have ih1 := ih (i + 1) (x + szs d[i]) (by omega) (by omega) (by omega)
   generalize d[i] = p at hp rdp ih1
   refine Ev.step (f := fun k => Xe.l0 k d ((x + szs p : Nat) : Int) ((i + 1 : Nat) : Int)) (fun k => ?_) ?_
   ·unfold szs at hp
    simp only [Xe.l0]; rw [if_pos (by omega), if_pos (by omega), rdp, Res.w64 (x := (i : Int) + 1) (by omega) (by omega)]
    have hx : x ≤ 60000000000000000 := by omega
    rw [Res.w64 (x := (x : Int) + (p.f4.size : Int)) (by omega) (by omega)]; rw [Res.w64 (x := (x : Int) + (p.f4.size : Int) + (p.f5.size : Int)) (by omega) (by omega)]; rw [Res.w64 (x := (x : Int) + (p.f4.size : Int) + (p.f5.size : Int) + (p.f6.size : Int)) (by omega) (by omega)]; rw [Res.w64 (x := (x : Int) + (p.f4.size : Int) + (p.f5.size : Int) + (p.f6.size : Int) + (p.f7.size : Int)) (by omega) (by omega)]; rw [Res.w64 (x := (x : Int) + (p.f4.size : Int) + (p.f5.size : Int) + (p.f6.size : Int) + (p.f7.size : Int) + (p.f0.size : Int)) (by omega) (by omega)]; rw [Res.w64 (x := (x : Int) + (p.f4.size : Int) + (p.f5.size : Int) + (p.f6.size : Int) + (p.f7.size : Int) + (p.f0.size : Int) + (p.f1.size : Int)) (by omega) (by omega)]; rw [Res.w64 (x := (x : Int) + (p.f4.size : Int) + (p.f5.size : Int) + (p.f6.size : Int) + (p.f7.size : Int) + (p.f0.size : Int) + (p.f1.size : Int) + (p.f2.size : Int)) (by omega) (by omega)]
    congr 1
    unfold szs
    omega
   ·unfold Uh
    rw [← Nat.add_assoc]; exact ih1
  ·refine Ev.step (f := fun _ => some (decide ((x : Int) ≤ 3000))) (fun k => ?_) ?_
   ·simp only [Xe.l0]; rw [if_neg (by omega), if_pos (by omega)]
   ·rw [List.drop_of_length_le (by omega)]
    have : decide ((x : Int) ≤ 3000) = decide (x + Uh [] ≤ 3000) := by simp only [Uh]; exact decide_eq_decide.2 (by omega)
    rw [this]; exact Ev.now _
def Qab : List Xi → Nat
 | [] => 0
 | p :: d => (if p.f3 = true then 1 else 0) + Qab d
theorem Qnb (d : List Xi) (hd : d.length ≤ 10000) : ∀ (n i c : Nat), d.length - i ≤ n → i ≤ d.length → c ≤ i → Ev (fun k => Zt.l0 k (c : Int) (d.map Yu) ((d.map Yu).length : Int) i) ((c + Qab (d.drop i) : Nat) : Int) := by
 have hx : (d.map Yu).length = d.length := List.length_map _; intro n
 induction n with
 | zero =>
  intro i c h1 h2 h3; refine Ev.step (f := fun _ => some (c : Int)) (fun k => ?_) ?_
  ·simp only [Zt.l0]; rw [if_neg (by omega)]
  ·rw [List.drop_of_length_le (by omega)]; exact Ev.now _
 | succ n ih =>
  intro i c h1 h2 h3
  by_cases hi : i < d.length
  ·have rdp := Qla hi
   rw [List.drop_eq_getElem_cons hi]
   have ih1 := fun c => ih (i + 1) c (by omega) (by omega)
   generalize d[i] = p at rdp
   unfold Qab
   by_cases h3 : p.f3 = true
   ·refine Ev.step (f := fun k => Zt.l0 k ((c + 1 : Nat) : Int) (d.map Yu) ((d.map Yu).length : Int) ((i + 1 : Nat) : Int)) (fun k => ?_) ?_
    ·simp only [Zt.l0]; rw [if_pos (by omega), if_pos (by omega), if_pos (by omega), rdp, if_pos (show (Yu p).f1 = true from h3), Res.w64 (by omega) (by omega), Res.w64 (by omega) (by omega)]; rfl
    ·rw [if_pos h3, ← Nat.add_assoc]; exact ih1 (c + 1) (by omega)
   ·refine Ev.step (f := fun k => Zt.l0 k (c : Int) (d.map Yu) ((d.map Yu).length : Int) ((i + 1 : Nat) : Int)) (fun k => ?_) ?_
    ·simp only [Zt.l0]; rw [if_pos (by omega), if_pos (by omega), if_pos (by omega), rdp, if_neg (show ¬ (Yu p).f1 = true from h3), Res.w64 (by omega) (by omega)]; rfl
    ·rw [if_neg h3, Nat.zero_add]; exact ih1 c (by omega)
  ·refine Ev.step (f := fun _ => some (c : Int)) (fun k => ?_) ?_
   ·simp only [Zt.l0]; rw [if_neg (by omega)]
   ·rw [List.drop_of_length_le (by omega)]; exact Ev.now _
theorem Qnc (d : List Xi) (hd : d.length ≤ 10000) : Ev (fun k => Zt.f k (d.map Yu)) (Qab d : Int) := by
 have := Qnb d hd d.length 0 0 (by omega) (by omega) (by omega)
 rw [List.drop_zero, Nat.zero_add] at this
 exact this
def Qcj (q : Xi) (s : ByteArray) : Xi := ⟨q.f0, q.f1, q.f2, q.f3, q.f4 ++ s, q.f5, q.f6, q.f7, q.f8⟩
def Kw (acc : List Xi) (p : Xi) : List Xi :=
 if (Um p && emp p.f4) = true then acc else if Um p = true then (match acc.getLast? with
  | some q => if Um q = true then acc.dropLast ++ [Qcj q p.f4] else acc ++ [p]
  | none => acc ++ [p]) else acc ++ [p]
def ofS : List Xi → List Xi → List Xi
 | acc, [] => acc
 | acc, p :: r => ofS (Kw acc p) r
theorem Jn (p : Xi) (d : List Xi) : Uh (p :: d) = szs p + Uh d := rfl
theorem Qfz : Uh [] = 0 := rfl
theorem Qas (a b : List Xi) : Uh (a ++ b) = Uh a + Uh b := by
 induction a with
 | nil => simp [Uh]
 | cons p a ih => rw [List.cons_append, Jn, Jn, ih]; omega
theorem Qmx (q : Xi) (s : ByteArray) : szs (Qcj q s) = szs q + s.size := by
 unfold szs Qcj; simp only [ByteArray.size_append]
 omega
theorem Qbc {acc : List Xi} {q : Xi} (h : acc.getLast? = some q) : acc = acc.dropLast ++ [q] := by
 obtain ⟨ys, rfl⟩ := List.getLast?_eq_some_iff.1 h
 simp
theorem Qgo (p : Xi) : p.f4.size ≤ szs p := by unfold szs; omega
theorem Qce (acc : List Xi) (p : Xi) : Uh (Kw acc p) ≤ Uh acc + szs p := by
 unfold Kw
 split
 ·omega
 ·split
  ·split
   ·rename_i q hq
    split
    ·have e := Qbc hq
     have h4 := Qgo p
     have : Uh acc = Uh acc.dropLast + szs q := by
      conv => lhs; rw [e]
      rw [Qas]; simp [Uh]
     rw [Qas, this]; simp only [Uh, Qmx]
     omega
    ·rw [Qas]; simp only [Uh]; omega
   ·rw [Qas]; simp only [Uh]; omega
  ·rw [Qas]; simp only [Uh]; omega
theorem Qdp (acc : List Xi) (p : Xi) : (Kw acc p).length ≤ acc.length + 1 := by
 unfold Kw
 split
 ·omega
 ·split
  ·split
   ·split
    ·simp
    ·simp
   ·simp
  ·simp
theorem Qok : ∀ (l acc : List Xi), Uh (ofS acc l) ≤ Uh acc + Uh l := by
 intro l
 induction l with
 | nil => intro acc; simp [ofS, Uh]
 | cons p l ih =>
  intro acc; have h1 := ih (Kw acc p); have h2 := Qce acc p; unfold ofS; rw [Jn]
  omega
theorem Qoj : ∀ (l acc : List Xi), (ofS acc l).length ≤ acc.length + l.length := by
 intro l
 induction l with
 | nil => intro acc; simp [ofS]
 | cons p l ih =>
  intro acc; have h1 := ih (Kw acc p); have h2 := Qdp acc p; unfold ofS; rw [List.length_cons]
  omega
theorem Qjk {acc : List Xi} (h : 0 < acc.length) : ∃ q, acc.getLast? = some q ∧ Qd acc ((acc.length : Int) - 1) = q ∧ Qb (acc.map Yu) ((acc.length : Int) - 1) = Yu q ∧ ∀ s : Xi, acc.set (acc.length - 1) s = acc.dropLast ++ [s] := by
 obtain ⟨n, hn⟩ : ∃ n, acc.length = n + 1 := ⟨acc.length - 1, by omega⟩
 have hl : n < acc.length := by omega
 refine ⟨acc[n], ?_, ?_, ?_, fun s => ?_⟩
 ·rw [List.getLast?_eq_getElem?, hn]; simp [hl]
 ·rw [show ((acc.length : Int) - 1) = (n : Int) by omega, Qng hl]
 ·rw [show ((acc.length : Int) - 1) = (n : Int) by omega, Qla hl]
 ·have hne : acc ≠ [] := by intro e; rw [e] at hn; simp at hn
  obtain ⟨ys, q, rfl⟩ : ∃ ys q, acc = ys ++ [q] := ⟨acc.dropLast, acc.getLast hne, (List.dropLast_concat_getLast hne).symm⟩
  simp
theorem Qoi (p : Xi) : ((((p.f0).toList) == ([] : List UInt8) && (((p.f1).toList) == ([] : List UInt8) && (((p.f2).toList) == ([] : List UInt8)))) && (!(p.f3) && (((p.f4).toList) == ([] : List UInt8) && (((p.f5).toList) == ([] : List UInt8) && (((p.f6).toList) == ([] : List UInt8) && (((p.f7).toList) == ([] : List UInt8) && (!(p.f8)))))))) = (Um p && emp p.f4) := by
 unfold Um emp
 cases (p.f0.toList == []) <;> cases (p.f1.toList == []) <;> cases (p.f2.toList == []) <;> cases p.f3 <;> cases (p.f4.toList == []) <;> cases (p.f5.toList == []) <;> cases (p.f6.toList == []) <;> cases (p.f7.toList == []) <;> cases p.f8 <;> rfl
theorem Qpr (d : List Xi) (hd : d.length ≤ 10000) : ∀ (n i : Nat) (acc : List Xi), d.length - i ≤ n → i ≤ d.length → acc.length ≤ i → Uh acc + Uh (d.drop i) ≤ 10000000000 →
  Ev (fun k => Yo.l0 k (acc.map Yu) (d.map Yu) ((d.map Yu).length : Int) i) ((ofS acc (d.drop i)).map Yu) := by
 have hx : (d.map Yu).length = d.length := List.length_map _; intro n
 induction n with
 | zero =>
  intro i acc h1 h2 h3 h4; refine Ev.step (f := fun _ => some (acc.map Yu)) (fun k => ?_) ?_
  ·simp only [Yo.l0]; rw [if_neg (by omega)]
  ·rw [List.drop_of_length_le (by omega)]; exact Ev.now _
 | succ n ih =>
  intro i acc h1 h2 h3 h4
  by_cases hi : i < d.length
  rotate_left
  ·refine Ev.step (f := fun _ => some (acc.map Yu)) (fun k => ?_) ?_
   ·simp only [Yo.l0]; rw [if_neg (by omega)]
   ·rw [List.drop_of_length_le (by omega)]; exact Ev.now _
  have rdp := Qla hi
  rw [List.drop_eq_getElem_cons hi] at h4 ⊢
  have ih1 := fun acc => ih (i + 1) acc (by omega) (by omega)
  generalize d[i] = p at rdp h4
  rw [Jn] at h4
  have hst := Qce acc p; have hsl := Qdp acc p; unfold ofS; have goal := ih1 (Kw acc p) (by omega) (by omega); have hal : (acc.map Yu).length = acc.length := List.length_map _; have t1 := Qhw p; refine Ev.step (f := fun k => Yo.l0 k ((Kw acc p).map Yu) (d.map Yu) ((d.map Yu).length : Int) ((i + 1 : Nat) : Int)) (fun k => ?_) goal; simp only [Yo.l0]; rw [if_pos (by omega), if_pos (by omega), if_pos (by omega), rdp, Res.w64 (x := (i : Int) + 1) (by omega) (by omega)]; have en := Qoi p; simp only [Yu, en]; unfold Kw
  by_cases he : (Um p && emp p.f4) = true
  ·rw [if_pos he, if_pos he]; rfl
  ·rw [if_neg he, if_neg he]
   by_cases ht : Um p = true
   ·rw [if_pos ht]
    have e1 : Zv.f p.f0 p.f1 p.f2 p.f3 p.f4 p.f5 p.f6 p.f7 p.f8 = some true := by rw [← ht]; rfl
    rw [e1, Option.bind_some, if_pos rfl, hal]
    by_cases hp : 0 < acc.length
    ·obtain ⟨q, hq1, _, hq2, hq3⟩ := Qjk hp
     rw [if_pos (by omega), Res.w64 (x := (acc.length : Int) - 1) (by omega) (by omega), if_pos (by omega), if_pos (by omega), hq2, hq1]; simp only [Yu]; rw [Qhw q, Option.bind_some]
     by_cases hqt : Um q = true
     ·rw [if_pos hqt, if_pos hqt]
      have hqs : szs q ≤ Uh acc := by
       have := Qbc hq1
       have e : Uh acc = Uh acc.dropLast + szs q := by
        conv => lhs; rw [this]
        rw [Qas]; simp [Uh]
       omega
      have a1 := Qgo q; have a2 := Qgo p; refine (if_pos (show q.f4.size + p.f4.size ≤ 9223372036854775807 by omega)).trans ?_
      have e3 : (((acc.length : Int) - 1)).toNat = acc.length - 1 := by omega
      rw [e3, ← hq3 (Qcj q p.f4), List.map_set]; rfl
     ·rw [if_neg hqt, if_neg hqt, if_pos (by omega), List.map_append]; rfl
    ·have hnil : acc = [] := List.eq_nil_of_length_eq_zero (by omega)
     subst hnil; rw [if_neg (by simp), if_pos (by simp)]; rfl
   ·rw [if_neg ht]
    have htf : Um p = false := by simpa using ht
    have e1 : Zv.f p.f0 p.f1 p.f2 p.f3 p.f4 p.f5 p.f6 p.f7 p.f8 = some false := by rw [← htf]; rfl
    rw [e1, Option.bind_some, if_neg (by decide), hal, if_pos (by omega), List.map_append]; rfl
theorem Qps (d : List Xi) (hd : d.length ≤ 10000) (ht : Uh d ≤ 10000000000) : Ev (fun k => Yo.f k (d.map Yu)) ((ofS [] d).map Yu) := by
 have := Qpr d hd d.length 0 [] (by omega) (by omega) (by simp) (by rw [List.drop_zero]; simp [Uh]; omega)
 rw [List.drop_zero] at this
 exact this
theorem Qlb (p : Xi) : Yb.f p.f0 p.f1 p.f2 p.f3 p.f4 p.f5 p.f6 p.f7 p.f8 = some (Um p) := by
 unfold Yb.f Um emp
 cases (p.f0.toList == []) <;> cases (p.f1.toList == []) <;> rfl
theorem Qpt (d : List Xi) (hd : d.length ≤ 10000) : ∀ (n i : Nat) (acc : List Xi), d.length - i ≤ n → i ≤ d.length → acc.length ≤ i → Uh acc + Uh (d.drop i) ≤ 10000000000 →
  Ev (fun k => Qy.l0 k d acc i) (ofS acc (d.drop i)) := by
 intro n
 induction n with
 | zero =>
  intro i acc h1 h2 h3 h4; refine Ev.step (f := fun _ => some acc) (fun k => ?_) ?_
  ·simp only [Qy.l0]; rw [if_neg (by omega)]
  ·rw [List.drop_of_length_le (by omega)]; exact Ev.now _
 | succ n ih =>
  intro i acc h1 h2 h3 h4
  by_cases hi : i < d.length
  rotate_left
  ·refine Ev.step (f := fun _ => some acc) (fun k => ?_) ?_
   ·simp only [Qy.l0]; rw [if_neg (by omega)]
   ·rw [List.drop_of_length_le (by omega)]; exact Ev.now _
  have rdp := Qng hi
  rw [List.drop_eq_getElem_cons hi] at h4 ⊢
  have ih1 := fun acc => ih (i + 1) acc (by omega) (by omega)
  generalize d[i] = p at rdp h4
  rw [Jn] at h4
  have hst := Qce acc p; have hsl := Qdp acc p; unfold ofS; have goal := ih1 (Kw acc p) (by omega) (by omega); have t1 := Qlb p
  have J : Ev (fun k => Qy.j1 k d acc i (acc.length : Int) (Um p && emp p.f4)) (ofS (Kw acc p) (d.drop (i + 1))) := by
   refine Ev.step (f := fun k => Qy.l0 k d (Kw acc p) ((i + 1 : Nat) : Int)) (fun k => ?_) goal; simp only [Qy.j1]; rw [rdp, t1, Res.w64 (x := (i : Int) + 1) (by omega) (by omega)]; unfold Kw
   by_cases he : (Um p && emp p.f4) = true
   ·rw [if_pos he, if_pos he]; rfl
   ·rw [if_neg he, if_neg he, if_pos (by omega), if_pos (by omega), Option.bind_some]
    by_cases ht : Um p = true
    ·rw [if_pos ht, if_pos ht]
     by_cases hp : 0 < acc.length
     ·obtain ⟨q, hq1, hq2, _, hq3⟩ := Qjk hp
      rw [if_pos (by omega), Res.w64 (x := (acc.length : Int) - 1) (by omega) (by omega), if_pos (by omega), if_pos (by omega), hq2, hq1, Qlb q, Option.bind_some]; simp only
      by_cases hqt : Um q = true
      ·rw [if_pos hqt, if_pos hqt]
       have hqs : szs q ≤ Uh acc := by
        have := Qbc hq1
        have e : Uh acc = Uh acc.dropLast + szs q := by
         conv => lhs; rw [this]
         rw [Qas]; simp [Uh]
        omega
       have a1 := Qgo q; have a2 := Qgo p; rw [if_pos (by omega)]
       have e3 : (((acc.length : Int) - 1)).toNat = acc.length - 1 := by omega
       rw [e3, ← hq3 (Qcj q p.f4)]; rfl
      ·rw [if_neg hqt, if_neg hqt, if_pos (by omega)]; rfl
     ·have hnil : acc = [] := List.eq_nil_of_length_eq_zero (by omega)
      subst hnil; rw [if_neg (by simp), if_pos (by simp)]; rfl
    ·rw [if_neg ht, if_neg ht, if_pos (by omega)]; rfl
  refine Ev.step (f := fun k => Qy.j1 k d acc i (acc.length : Int) (Um p && emp p.f4)) (fun k => ?_) J; simp only [Qy.l0]; rw [if_pos (by omega), if_pos (by omega), rdp, t1, Option.bind_some]
  cases ht : Um p
  ·rw [if_neg (by decide), Bool.false_and]
  ·rw [if_pos rfl, Bool.true_and]; rfl
theorem Qpu (d : List Xi) (hd : d.length ≤ 10000) (ht : Uh d ≤ 10000000000) : Ev (fun k => Qy.f k d) (ofS [] d) := by
 have := Qpt d hd d.length 0 [] (by omega) (by omega) (by simp) (by rw [List.drop_zero]; simp [Uh]; omega)
 rw [List.drop_zero] at this
 exact this
def elem (prev : Bool) (p : Xi) (fol : Bool) : Prop := plP p = true ∧ (if Um p = true then prev = false ∧ emp p.f4 = false ∧ (fol = true → Up p.f4 = true) else Qdg p = true)
def Jc : Bool → List Xi → Bool → Prop
 | _, [], _ => True
 | prev, p :: r, fol => elem prev p (!r.isEmpty || fol) ∧ Jc (Um p) r fol
theorem Qly : ∀ (l : List Xi) (prev : Bool), Jr prev l = true ↔ Jc prev l false := by
 intro l
 induction l with
 | nil => intro prev; simp [Jr, Jc]
 | cons p l ih =>
  intro prev; unfold Jr Jc elem; rw [← ih]
  cases ht : Um p
  ·simp only [Bool.false_eq_true, if_false]
   cases Qdg p <;> simp
  ·simp only [if_true]
   cases plP p <;> cases prev <;> cases emp p.f4 <;> cases l.isEmpty <;> simp
theorem Qjq : ∀ (l : List Xi) (prev : Bool), Jc prev l true → Jc prev l false := by
 intro l
 induction l with
 | nil => intro _ _; trivial
 | cons p l ih =>
  intro prev h
  unfold Jc at h ⊢
  refine ⟨?_, ih _ h.2⟩; have h1 := h.1
  unfold elem at h1 ⊢
  refine ⟨h1.1, ?_⟩; have h2 := h1.2
  split
  ·rename_i ht
   rw [if_pos ht] at h2
   exact ⟨h2.1, h2.2.1, fun _ => h2.2.2 (by simp)⟩
  ·rename_i ht
   rw [if_neg ht] at h2
   exact h2
def Qdk : Bool → List Xi → Bool
 | prev, [] => prev
 | _, p :: r => Qdk (Um p) r
theorem Qkb (p : Xi) : ∀ (l : List Xi) (prev : Bool), Qdk prev (l ++ [p]) = Um p := by
 intro l
 induction l with
 | nil => intro prev; rfl
 | cons q l ih => intro prev; rw [List.cons_append]; exact ih _
theorem Qan (p : Xi) (fol : Bool) : ∀ (l : List Xi) (prev : Bool), Jc prev (l ++ [p]) fol ↔ Jc prev l true ∧ elem (Qdk prev l) p fol := by
 intro l
 induction l with
 | nil => intro prev; simp [Jc, Qdk]
 | cons q l ih =>
  intro prev; rw [List.cons_append]; unfold Jc Qdk; rw [ih]
  have : (!(l ++ [p]).isEmpty || fol) = (!l.isEmpty || true) := by cases l <;> simp
  rw [this]; constructor
  ·rintro ⟨a, b, c⟩; exact ⟨⟨a, b⟩, c⟩
  ·rintro ⟨⟨a, b⟩, c⟩; exact ⟨a, b, c⟩
def Qfe : List Xi → Prop
 | [] => True
 | p :: r => (plP p = true ∧ (Um p = true ∨ Qdg p = true) ∧ (Um p = true → emp p.f4 = false → r.isEmpty = false → Up p.f4 = true)) ∧ Qfe r
theorem Qje (a b : ByteArray) (hb : emp b = false) (ha : a.size ≤ 1000000000000) (hb2 : b.size ≤ 1000000000000) : Up (a ++ b) = Up b := by
 have hs : 0 < b.size := by
  rcases Nat.eq_zero_or_pos b.size with h | h
  ·exfalso
   have : b.toList = [] := by rw [ByteArray.toList_eq]; exact List.eq_nil_of_length_eq_zero (by simpa using h)
   rw [Qcd.1 this] at hb; cases hb
  ·exact h
 have e : (a ++ b).size = a.size + b.size := ByteArray.size_append; unfold Up; rw [decide_eq_true hs, decide_eq_true (by omega : 0 < (a ++ b).size), Bool.true_and, Bool.true_and]; obtain ⟨n, hn⟩ : ∃ n, b.size = n + 1 := ⟨b.size - 1, by omega⟩; rw [show (((a ++ b).size : Int) - 1) = ((a.size + n : Nat) : Int) by omega, show ((b.size : Int) - 1) = (n : Int) by omega, Qco _ _ (by omega), Qco _ _ (by omega)]
 have hd : (a ++ b).data.toList = a.data.toList ++ b.data.toList := by simp [ByteArray.data_append]
 have : (a ++ b).data.toList[a.size + n]'(by simp; omega) = b.data.toList[n]'(by simp; omega) := by
  simp only [hd]; rw [List.getElem_append_right (by simp)]
  congr 1
  simp
 rw [this]
theorem Qmn (a b : ByteArray) (h : emp b = false) : emp (a ++ b) = false := by
 have := Qkt a b
 unfold emp at this ⊢
 rw [this]
 unfold emp at h
 rw [h, Bool.and_false]
theorem Qiw (acc : List Xi) (p : Xi) (fol : Bool) (h : Jc false acc true) (hp : plP p = true) (ht : Um p = true ∨ Qdg p = true) (he : Um p = true → emp p.f4 = false → fol = true → Up p.f4 = true) (hsz : Uh acc + szs p ≤ 10000000000) : Jc false (Kw acc p) fol := by
 have weak : Jc false acc fol := by
  cases fol
  ·exact Qjq _ _ h
  ·exact h
 unfold Kw
 split
 ·exact weak
 ·rename_i hn
  split
  ·rename_i htp
   have hne : emp p.f4 = false := by
    cases e : emp p.f4
    ·rfl
    ·rw [htp, e] at hn; exact absurd rfl hn
   split
   ·rename_i q hq
    have hspl := Qbc hq
    have hqs : szs q ≤ Uh acc := by
     have e : Uh acc = Uh acc.dropLast + szs q := by
      conv => lhs; rw [hspl]
      rw [Qas]; simp [Uh]
     omega
    have a1 := Qgo q; have a2 := Qgo p
    rw [hspl] at h
    obtain ⟨h1, h2⟩ := (Qan q true _ false).1 h
    split
    ·rename_i hqt
     refine (Qan _ fol _ false).2 ⟨h1, ?_⟩
     unfold elem at h2 ⊢
     have em : Um (Qcj q p.f4) = Um q := rfl; have epl : plP (Qcj q p.f4) = plP q := rfl; rw [em, epl, if_pos hqt]
     rw [if_pos hqt] at h2
     exact ⟨h2.1, h2.2.1, Qmn _ _ hne, fun hf => (Qje q.f4 p.f4 hne (by omega) (by omega)).trans (he htp hne hf)⟩
    ·rename_i hqt
     rw [hspl]; refine (Qan _ fol _ false).2 ⟨(Qan q true _ false).2 ⟨h1, h2⟩, ?_⟩; rw [Qkb]; unfold elem; rw [if_pos htp]; exact ⟨hp, by simpa using hqt, hne, he htp hne⟩
   ·rename_i hq
    have hnil : acc = [] := List.getLast?_eq_none_iff.1 hq; subst hnil; rw [List.nil_append]; unfold Jc elem; rw [if_pos htp]; exact ⟨⟨hp, rfl, hne, fun hf => he htp hne (by simpa using hf)⟩, trivial⟩
  ·rename_i htp
   refine (Qan _ fol _ false).2 ⟨h, ?_⟩; unfold elem; rw [if_neg htp]; exact ⟨hp, ht.resolve_left htp⟩
theorem Qlt : ∀ (l acc : List Xi), Qfe l → Jc false acc (!l.isEmpty) → Uh acc + Uh l ≤ 10000000000 → Jc false (ofS acc l) false := by
 intro l
 induction l with
 | nil => intro acc _ h _; exact h
 | cons p l ih =>
  intro acc hg h hsz
  rw [Jn] at hsz
  unfold Qfe at hg
  unfold ofS; have hs := Qce acc p; refine ih _ hg.2 (Qiw acc p _ h hg.1.1 hg.1.2.1 (fun a b c => hg.1.2.2 a b (by simpa using c)) (by omega)) (by omega)
end D7
end Go.Proofs.Ytadafplbgophfaa.Pure
end
section
namespace Go.Proofs.Ytadafplbgophfaa.PA
open Go.RowKit Go.Proofs.YtadafplbgophfaaW.PrintWords Go.Proofs.YtadafplbgophfaaW.PrintLast Go.Proofs.YtadafplbgophfaaW.PrintMore
set_option maxHeartbeats 8000000 in
set_option maxRecDepth 100000 in
theorem Xc.all (k : Nat) (g : Nat) (ok : Nat → Prop) (v : Value) (lb : Vz) (style favour : Int) (l : List Yv) (st : Bool) (i0 i1 i2 i3 i4 i5 : Int) (cls : Int)
  (A1 : Option Addr) (c1 : Nat) (b1 : List ByteArray) (A2 : Option Addr) (c2 : Nat) (b2 : List ByteArray) (A3 : Option Addr) (c3 : Nat) (b3 : List ByteArray) (w0 w : World) (hF : Bld w0 w g ok v lb style favour l)
  (hr1 : Kd.F Kd.string w (fun k => ¬ ok k ∧ k ≠ g) A1 b1.length b1) (hc1 : b1.length ≤ c1) (hr2 : Kd.F Kd.string w (fun k => ¬ ok k ∧ k ≠ g) A2 b2.length b2) (hc2 : b2.length ≤ c2) (hr3 : Kd.F Kd.string w (fun k => ¬ ok k ∧ k ≠ g) A3 b3.length b3) (hc3 : b3.length ≤ c3)
  (n m : Int) (hn : if style = 2 then Vd.f k b2 b3 = some (n, m) else n = 0 ∧ m = 0) (hn0 : 0 ≤ n) (hm0 : 0 ≤ m) (hnm : n + m ≤ b2.length) (hnm3 : n + m ≤ b3.length) (hl : l.length ≤ 900000000)
  (jb jl jr s1 s3 : ByteArray) (hjb : Zy.f k b1 = some jb) (hjl : Zy.f k ((b2.take ((b2.length : Int) - m).toNat).drop n.toNat) = some jl) (hjr : Zy.f k ((b3.take ((b3.length : Int) - m).toNat).drop n.toNat) = some jr)
  (hs1 : Zy.f k (b2.take n.toNat) = some s1) (hs3 : Zy.f k (b2.drop ((b2.length : Int) - m).toNat) = some s3) :
  Calls Try.prog 137 #[.pointer (some ⟨g, 0, none⟩), .agg #[.bool st, .int .i64 i0, .int .i64 i1, .int .i64 i2, .int .i64 i3, .int .i64 i4, .int .i64 i5, .slice A1 b1.length c1, .slice A2 b2.length c2, .slice A3 b3.length c3, .int .i64 cls]] w fun e w' => e = .returned (.tuple #[]) ∧ (∃ v', Bld w0 w' g ok v' lb style favour (l ++ [Yn s1, Qdo lb style jb jl jr, Yn s3])) ∧ Fr ok g w w' := by
 have HF := Qa.mk hF; have H1 := Qa.mk (fun W' (h : Fr ok g w W') => hr1 W' (fun k hk hlt => h.2 k hlt hk.1 hk.2)); have H2 := Qa.mk (fun W' (h : Fr ok g w W') => hr2 W' (fun k hk hlt => h.2 k hlt hk.1 hk.2)); have H3 := Qa.mk (fun W' (h : Fr ok g w W') => hr3 W' (fun k hk hlt => h.2 k hlt hk.1 hk.2)); obtain ⟨iz, hinfo, _, hsz, _⟩ := info_parts Ko; obtain ⟨e2, he2⟩ : ∃ e, wrap64 ((b2.length : Int) - m) = e := ⟨_, rfl⟩; obtain ⟨e3, he3⟩ : ∃ e, wrap64 ((b3.length : Int) - m) = e := ⟨_, rfl⟩
 have he2' : (b2.length : Int) - m = e2 := by have := Kd.F_max hr2; rw [← he2]; unfold wrap64; omega
 have he3' : (b3.length : Int) - m = e3 := by have := Kd.F_max hr3; rw [← he3]; unfold wrap64; omega
 rw [he2'] at hjl hs3
 rw [he3'] at hjr
 obtain ⟨B2, d2, hcut2, hC2, hL2⟩ := Qcc Kd.string 27 9 Try.underlying27 hinfo hsz A2 c2 b2 n e2 hn0 (by omega) (by omega) hc2; obtain ⟨B3, d3, hcut3, hC3, hL3⟩ := Qcc Kd.string 27 9 Try.underlying27 hinfo hsz A3 c3 b3 n e3 hn0 (by omega) (by omega) hc3; obtain ⟨hcut4, hC4, hL4⟩ := Qml Kd.string 27 9 Try.underlying27 hinfo hsz A2 c2 b2 n hn0 (by omega) hc2; obtain ⟨B5, d5, hcut5, hC5, hL5⟩ := Qjd Kd.string 27 9 Try.underlying27 hinfo hsz A2 c2 b2 e2 (by omega) (by omega) hc2
 generalize b2.take n.toNat = t4 at hcut4 hC4 hL4 hs1
 generalize b2.drop e2.toNat = t5 at hcut5 hC5 hL5 hs3
 have HT4 := Qa.mk (fun W' (h : Fr ok g w W') => hC4 _ (H2.out W' h)); have HT5 := Qa.mk (fun W' (h : Fr ok g w W') => hC5 _ (H2.out W' h)); have HL4 := Qa.mk hL4; have HL5 := Qa.mk hL5; have HJ := Qa.mk (And.intro hjb (And.intro hs1 hs3)); clear hC4 hC5 hL4 hL5
 generalize (b2.take e2.toNat).drop n.toNat = t2 at hcut2 hC2 hL2 hjl
 generalize (b3.take e3.toNat).drop n.toNat = t3 at hcut3 hC3 hL3 hjr
 have HT2 := Qa.mk (fun W' (h : Fr ok g w W') => hC2 _ (H2.out W' h)); have HT3 := Qa.mk (fun W' (h : Fr ok g w W') => hC3 _ (H3.out W' h)); have HL2 := Qa.mk hL2; have HL3 := Qa.mk hL3; have HE := Qa.mk (And.intro he2' (And.intro he3' (And.intro hnm hnm3))); have HLL := Qa.mk hl; have HN := Qa.mk (And.intro hn0 hm0); have HJS := Qa.mk (And.intro hjl hjr); clear hC2 hC3 hL2 hL3 he2' he3' hjl hjr hjb hs1 hs3 hnm hnm3 hl hn0 hm0; have hu181 := Try.underlying181; have hu116 := Try.underlying116; have hu120 := Try.underlying120; have hu184 := Try.underlying184; clear hF hr1 hr2 hr3
 go_enter Try.func137, Try.ntmps137
 go_upto_if 11 with (first | ((with_reducible refine Zd (N := 3) rfl ?_); refine Zc ?hg (N := 3) ?hd (cs := #[.bool st, .int .i64 i0, .int .i64 i1, .int .i64 i2, .int .i64 i3, .int .i64 i4, .int .i64 i5, .slice A1 b1.length c1, .slice A2 b2.length c2, .slice A3 b3.length c3, .int .i64 cls]) (t := 184) ?hr ?_; (case hd => rfl); (case hg => rfl); (case hr => first | (go_simp; done) | (go_simp; rfl)); intro g0 hg w1 hbox hb; subst hg; have BP := Qa.mk hbox; have HF1 := Qa.mk (HF.out.shrink hb _ (Nat.le_refl _) (Zu hbox)); have hst := (Qc HF1.out.blk 3).trans (show _ = some (Value.int .i64 style) from rfl); have hp2 := (Qc hbox 8).trans (show _ = some (Value.slice A2 b2.length c2) from rfl); have hp3 := (Qc hbox 9).trans (show _ = some (Value.slice A3 b3.length c3) from rfl); have HB1 := Qa.mk hb; clear hbox hb))
 go_cut [4, 5] from 7 (fun v4 v5 W => v4 = .int .i64 n ∧ v5 = .int .i64 m ∧ Qa (Below w.heap.size w W) ∧ Qa (Bld w0 W g (fun k => ok k ∧ k ≠ w.heap.size) v lb style favour l) ∧ Qa (W.heap[w.heap.size]? = some (.cells #[.bool st, .int .i64 i0, .int .i64 i1, .int .i64 i2, .int .i64 i3, .int .i64 i4, .int .i64 i5, .slice A1 b1.length c1, .slice A2 b2.length c2, .slice A3 b3.length c3, .int .i64 cls] 184 (0, 0))))
 case first =>
  by_cases h2 : style = 2
  ·have hs2 : (style == 2) = true := beq_iff_eq.mpr h2
   have hs2b : decide (style = 2) = true := decide_eq_true h2
   rw [if_pos h2] at hn
   go_wp2_with fail; refine (Vd.calls k A2 c2 b2 A3 c3 b3 n m w1 (H2.out _ (Fr.of_below HB1.out)) hc2 (H3.out _ (Fr.of_below HB1.out)) hc3 hn).mono ?_; rintro e w2 ⟨rfl, hD⟩; have hb := Zl.below hD; have HB2 := Qa.mk (Qj HB1.out hb); have HF2 := Qa.mk (HF1.out.on hb); have BP2 := Qa.mk (Qq BP.out hb); clear hD hb HB1 HF1 BP hst hp2 hp3; go_wp2_with fail
   go_meet
   case rel => exact ⟨rfl, rfl, HB2, HF2, BP2⟩
  ·have hs2 : (style == 2) = false := beq_eq_false_iff_ne.mpr h2
   have hs2b : decide (style = 2) = false := decide_eq_false h2
   rw [if_neg h2] at hn
   go_wp2_with fail
   go_meet
   case rel => exact ⟨by rw [hn.1], by rw [hn.2], HB1, HF1, BP⟩
 case rest =>
 clear HB1 HF1 BP hst hp2 hp3; obtain ⟨rfl, rfl, HB2, HF2, BP2⟩ := hcut; have hk0 := (Qc HF2.out.blk 0).trans (show _ = some (Value.string lb.f0) from rfl); have hk1 := (Qc HF2.out.blk 1).trans (show _ = some (Value.string lb.f1) from rfl); have hk2 := (Qc HF2.out.blk 2).trans (show _ = some (Value.string lb.f2) from rfl); have hp2 := (Qc BP2.out 8).trans (show _ = some (Value.slice A2 b2.length c2) from rfl); have hp3 := (Qc BP2.out 9).trans (show _ = some (Value.slice A3 b3.length c3) from rfl); go_wp2_with fail; refine Ug (n := 27) (S := fun w' => w'.cell? ⟨g, 0, none⟩ = some (.string lb.f0) ∧ w'.cell? ⟨g, 1, none⟩ = some (.string lb.f1) ∧ w'.cell? ⟨g, 2, none⟩ = some (.string lb.f2) ∧ w'.cell? ⟨w.heap.size, 8, none⟩ = some (.slice A2 b2.length c2) ∧ w'.cell? ⟨w.heap.size, 9, none⟩ = some (.slice A3 b3.length c3)) (ds := [26]) (bz_ 27 0) (by kernel_rfl) rfl rfl ⟨hk0, hk1, hk2, hp2, hp3⟩ (fun hHeld => ?_); refine Va Xc.tab4 Xc.bits4 (fun HT_ HW_ => ?_); have HFd := Qa.mk HF2.out.drew; have BPd := Qa.mk (Qp BP2.out); have HBd := Qa.mk (Qi HB2.out); clear hk0 hk1 hk2 hp2 hp3
 generalize wc.drew = wd at HFd BPd HBd hHeld ⊢
 clear HF2 BP2 HB2; refine pu_ (i := 0) (N := some 20) #[true, false, false, false, false, false, false, false, false, false, false, false, false, false, false, false, false, false, false, false, false, false, false, false, false, false, false] ?_; refine pu_ (i := 1) (N := some 21) #[true, true, false, false, false, false, false, false, false, false, false, false, false, false, false, false, false, false, false, false, false, false, false, false, false, false, false] ?_; refine pu_ (i := 2) (N := some 22) #[true, true, true, false, false, false, false, false, false, false, false, false, false, false, false, false, false, false, false, false, false, false, false, false, false, false, false] ?_; refine ta_ (i := 3) (N := some 23) #[true, true, true, true, false, false, false, false, false, false, false, false, false, false, false, false, false, false, false, false, false, false, false, false, false, false, false] ?_; refine pu_ (i := 4) (N := some 24) #[true, true, true, true, true, false, false, false, false, false, false, false, false, false, false, false, false, false, false, false, false, false, false, false, false, false, false] ?_; refine ta_ (i := 5) (N := some 25) #[true, true, true, true, true, true, false, false, false, false, false, false, false, false, false, false, false, false, false, false, false, false, false, false, false, false, false] ?_; refine pu_ (i := 6) (N := some 26) #[true, true, true, true, true, true, true, false, false, false, false, false, false, false, false, false, false, false, false, false, false, false, false, false, false, false, false] ?_; refine pu_ (i := 7) (N := some 27) #[true, true, true, true, true, true, true, true, false, false, false, false, false, false, false, false, false, false, false, false, false, false, false, false, false, false, false] ?_; refine ta_ (i := 8) (N := some 28) #[true, true, true, true, true, true, true, true, true, false, false, false, false, false, false, false, false, false, false, false, false, false, false, false, false, false, false] ?_; refine pu_ (i := 9) (N := some 29) #[true, true, true, true, true, true, true, true, true, true, false, false, false, false, false, false, false, false, false, false, false, false, false, false, false, false, false] ?_; refine pu_ (i := 10) (N := some 30) #[true, true, true, true, true, true, true, true, true, true, true, false, false, false, false, false, false, false, false, false, false, false, false, false, false, false, false] ?_; refine Km (i := 11) (N := some 31) (v := ?_) (a' := ?_) (bz_ 27 4095) rfl rfl (Uj HT_.out (by kernel_rfl)) (fun _ _ _ h => h) (Or.inl ⟨by rfl, ?_⟩) ?_ ?_; rotate_left
 ·intro w'
  go_simp
  with_reducible rfl
 rotate_left
 ·simp only [Act.put, sA_, sB_, sC_, Yx, Vi, he2]
  rfl
 refine Km (i := 12) (N := some 32) (v := ?_) (a' := ?_) (bz_ 27 8191) rfl rfl (Uj HT_.out (by kernel_rfl)) (fun _ _ _ h => h) (Or.inl ⟨by rfl, ?_⟩) ?_ ?_; rotate_left
 ·intro w'
  go_simp
  first | with_reducible rfl | exact hcut2 _ | (rw [hcut2]; rfl)
 rotate_left
 ·simp only [Act.put, sA_, sB_, sC_, Yx, Vi]
  rfl
 refine pu_ (i := 14) (N := some 34) #[true, true, true, true, true, true, true, true, true, true, true, true, true, false, true, false, false, false, false, false, false, false, false, false, false, false, false] ?_; refine ta_ (i := 15) (N := some 35) #[true, true, true, true, true, true, true, true, true, true, true, true, true, false, true, true, false, false, false, false, false, false, false, false, false, false, false] ?_; refine pu_ (i := 16) (N := some 36) #[true, true, true, true, true, true, true, true, true, true, true, true, true, false, true, true, true, false, false, false, false, false, false, false, false, false, false] ?_; refine pu_ (i := 17) (N := some 37) #[true, true, true, true, true, true, true, true, true, true, true, true, true, false, true, true, true, true, false, false, false, false, false, false, false, false, false] ?_; refine ta_ (i := 18) (N := some 38) #[true, true, true, true, true, true, true, true, true, true, true, true, true, false, true, true, true, true, true, false, false, false, false, false, false, false, false] ?_; refine pu_ (i := 19) (N := some 39) #[true, true, true, true, true, true, true, true, true, true, true, true, true, false, true, true, true, true, true, true, false, false, false, false, false, false, false] ?_; refine pu_ (i := 20) (N := some 40) #[true, true, true, true, true, true, true, true, true, true, true, true, true, false, true, true, true, true, true, true, true, false, false, false, false, false, false] ?_; refine Km (i := 21) (N := some 41) (v := ?_) (a' := ?_) (bz_ 27 4186111) rfl rfl (Uj HT_.out (by kernel_rfl)) (fun _ _ _ h => h) (Or.inl ⟨by rfl, ?_⟩) ?_ ?_; rotate_left
 ·intro w'
  go_simp
  with_reducible rfl
 rotate_left
 ·simp only [Act.put, sA_, sB_, sC_, Yx, Vi, he3]
  rfl
 refine Km (i := 22) (N := some 42) (v := ?_) (a' := ?_) (bz_ 27 8380415) rfl rfl (Uj HT_.out (by kernel_rfl)) (fun _ _ _ h => h) (Or.inl ⟨by rfl, ?_⟩) ?_ ?_; rotate_left
 ·intro w'
  go_simp
  first | with_reducible rfl | exact hcut3 _ | (rw [hcut3]; rfl)
 rotate_left
 ·simp only [Act.put, sA_, sB_, sC_, Yx, Vi]
  rfl
 have HB0 := Qa.mk (Below.refl wd.heap.size wd); have HF0 := HFd; have BP0 := BPd; refine Jl (σ := Nat) 1 (bz_ 27 67108863) (fun s => [(33, .string jl), (43, .string jr), (44, .agg #[.string lb.f0, .string lb.f1, .string lb.f2, .bool true, .string ⟨#[]⟩, .string jl, .string ⟨#[]⟩, .string jr, .bool false]), (6, .pointer (some ⟨s, 0, none⟩))]) (fun s w' => (w'.cell? ⟨g, 0, none⟩ = some (.string lb.f0) ∧ w'.cell? ⟨g, 1, none⟩ = some (.string lb.f1) ∧ w'.cell? ⟨g, 2, none⟩ = some (.string lb.f2) ∧ w'.cell? ⟨w.heap.size, 8, none⟩ = some (.slice A2 b2.length c2) ∧ w'.cell? ⟨w.heap.size, 9, none⟩ = some (.slice A3 b3.length c3)) ∧ Bld w0 w' g (fun k => ok k ∧ k ≠ w.heap.size) v lb style favour l ∧ w'.heap[w.heap.size]? = some (.cells #[.bool st, .int .i64 i0, .int .i64 i1, .int .i64 i2, .int .i64 i3, .int .i64 i4, .int .i64 i5, .slice A1 b1.length c1, .slice A2 b2.length c2, .slice A3 b3.length c3, .int .i64 cls] 184 (0, 0)) ∧ w'.heap[s]? = some (.cells #[.string ⟨#[]⟩, .string ⟨#[]⟩, .string ⟨#[]⟩, .bool false, .string ⟨#[]⟩, .string ⟨#[]⟩, .string ⟨#[]⟩, .string ⟨#[]⟩, .bool false] 120 (0, 0)) ∧ Below wd.heap.size wd w' ∧ wd.heap.size ≤ s) ?_ ?_; rotate_left
 ·intro hJ
  refine Qcr (i := 13) (j := 25) (Ni := some 33) (Nj := some 6) (bz_ 27 8388607) (bz_ 27 41934847) rfl rfl rfl rfl (Jk HT_.out (by kernel_rfl)) (by decide) (by decide) (fun K hK => ?_) (fun K hK => ?_)
  ·skip
   refine Vr Try.func146 (by kernel_rfl) rfl #[.slice B2 t2.length d2] (by rfl) rfl rfl (by (try simp only [List.map_toArray, List.map_cons, List.map_nil]); first | done | rfl) ?_; refine (Zy.calls k B2 d2 t2 jl _ (HT2.out _ (Fr.of_below (Uq HBd.out HB0.out))) HL2.out HJS.out.1).mono ?_; rintro e w' ⟨rfl, hb⟩; refine ⟨_, rfl, ?_⟩; have HFq1 := Qa.mk (HF0.out.on hb); have BPq1 := Qa.mk (Qq BP0.out hb); have HBq1 := Qa.mk (Qj HB0.out hb); clear hb; refine hK.out _ _ ⟨(Qc HFq1.out.blk 0).trans (show _ = some _ from rfl), (Qc HFq1.out.blk 1).trans (show _ = some _ from rfl), (Qc HFq1.out.blk 2).trans (show _ = some _ from rfl), (Qc BPq1.out 8).trans (show _ = some _ from rfl), (Qc BPq1.out 9).trans (show _ = some _ from rfl)⟩ (fun hHeld => ?_); clear hK K; refine nN_ 33 ?_; refine Qcr (i := 23) (j := 25) (Ni := some 43) (Nj := some 6) (bz_ 27 16777215) (bz_ 27 41943039) rfl rfl rfl rfl (Jk HT_.out (by kernel_rfl)) (by decide) (by decide) (fun K hK => ?_) (fun K hK => ?_)
   ·skip
    refine Vr Try.func146 (by kernel_rfl) rfl #[.slice B3 t3.length d3] (by rfl) rfl rfl (by (try simp only [List.map_toArray, List.map_cons, List.map_nil]); first | done | rfl) ?_; refine (Zy.calls k B3 d3 t3 jr _ (HT3.out _ (Fr.of_below (Uq HBd.out HBq1.out))) HL3.out HJS.out.2).mono ?_; rintro e w' ⟨rfl, hb⟩; refine ⟨_, rfl, ?_⟩; have HFq2 := Qa.mk (HFq1.out.on hb); have BPq2 := Qa.mk (Qq BPq1.out hb); have HBq2 := Qa.mk (Qj HBq1.out hb); clear hb; refine hK.out _ _ ⟨(Qc HFq2.out.blk 0).trans (show _ = some _ from rfl), (Qc HFq2.out.blk 1).trans (show _ = some _ from rfl), (Qc HFq2.out.blk 2).trans (show _ = some _ from rfl), (Qc BPq2.out 8).trans (show _ = some _ from rfl), (Qc BPq2.out 9).trans (show _ = some _ from rfl)⟩ (fun hHeld => ?_); clear hK K; refine nN_ 43 ?_; refine pu_ (i := 24) (N := some 44) #[true, true, true, true, true, true, true, true, true, true, true, true, true, true, true, true, true, true, true, true, true, true, true, true, true, false, false] ?_; refine on_ (i := 25) (N := some 6) #[true, true, true, true, true, true, true, true, true, true, true, true, true, true, true, true, true, true, true, true, true, true, true, true, true, true, false] (fun K hK => ?_); refine Kh (w1 := ?_) (v := ?_) (by rfl) rfl ?_ ?_; rotate_left 2
    ·go_simp
     constructor
     ·rfl
     ·rfl
    refine Jd (P := fun W => K _ W) (fun W' hs hba => ?_); have HFq3 := Qa.mk (HFq2.out.on hba); have BPq3 := Qa.mk (Qq BPq2.out hba); have HBq3 := Qa.mk (Qj HBq2.out hba); have BSq3 := Qa.mk hs; have GE := Qa.mk (Qo HBq2.out); clear hs hba; refine hK.out _ _ ⟨(Qc HFq3.out.blk 0).trans (show _ = some _ from rfl), (Qc HFq3.out.blk 1).trans (show _ = some _ from rfl), (Qc HFq3.out.blk 2).trans (show _ = some _ from rfl), (Qc BPq3.out 8).trans (show _ = some _ from rfl), (Qc BPq3.out 9).trans (show _ = some _ from rfl)⟩ (fun hHeld => ?_); clear hK K; refine nN_ 6 ?_; exact np_ (hJ _ _ ⟨hHeld, HFq3.out, BPq3.out, BSq3.out, HBq3.out, GE.out⟩)
   ·skip
    refine Kh (w1 := ?_) (v := ?_) (by rfl) rfl ?_ ?_; rotate_left 2
    ·go_simp
     constructor
     ·rfl
     ·rfl
    refine Jd (P := fun W => K _ W) (fun W' hs hba => ?_); have HFq4 := Qa.mk (HFq1.out.on hba); have BPq4 := Qa.mk (Qq BPq1.out hba); have HBq4 := Qa.mk (Qj HBq1.out hba); have BSq4 := Qa.mk hs; have GE := Qa.mk (Qo HBq1.out); clear hs hba; refine hK.out _ _ ⟨(Qc HFq4.out.blk 0).trans (show _ = some _ from rfl), (Qc HFq4.out.blk 1).trans (show _ = some _ from rfl), (Qc HFq4.out.blk 2).trans (show _ = some _ from rfl), (Qc BPq4.out 8).trans (show _ = some _ from rfl), (Qc BPq4.out 9).trans (show _ = some _ from rfl)⟩ (fun hHeld => ?_); clear hK K; refine nN_ 6 ?_; refine on_ (i := 23) (N := some 43) #[true, true, true, true, true, true, true, true, true, true, true, true, true, true, true, true, true, true, true, true, true, true, true, true, false, true, false] (fun K hK => ?_); refine Vr Try.func146 (by kernel_rfl) rfl #[.slice B3 t3.length d3] (by rfl) rfl rfl (by (try simp only [List.map_toArray, List.map_cons, List.map_nil]); first | done | rfl) ?_; refine (Zy.calls k B3 d3 t3 jr _ (HT3.out _ (Fr.of_below (Uq HBd.out HBq4.out))) HL3.out HJS.out.2).mono ?_; rintro e w' ⟨rfl, hb⟩; refine ⟨_, rfl, ?_⟩; have HFq5 := Qa.mk (HFq4.out.on hb); have BPq5 := Qa.mk (Qq BPq4.out hb); have HBq5 := Qa.mk (Qj HBq4.out hb); have BSq5 := Qa.mk (Qq BSq4.out hb); clear hb; refine hK.out _ _ ⟨(Qc HFq5.out.blk 0).trans (show _ = some _ from rfl), (Qc HFq5.out.blk 1).trans (show _ = some _ from rfl), (Qc HFq5.out.blk 2).trans (show _ = some _ from rfl), (Qc BPq5.out 8).trans (show _ = some _ from rfl), (Qc BPq5.out 9).trans (show _ = some _ from rfl)⟩ (fun hHeld => ?_); clear hK K; refine nN_ 43 ?_; refine pu_ (i := 24) (N := some 44) #[true, true, true, true, true, true, true, true, true, true, true, true, true, true, true, true, true, true, true, true, true, true, true, true, true, true, false] ?_; exact np_ (hJ _ _ ⟨hHeld, HFq5.out, BPq5.out, BSq5.out, HBq5.out, GE.out⟩)
  ·skip
   refine Kh (w1 := ?_) (v := ?_) (by rfl) rfl ?_ ?_; rotate_left 2
   ·go_simp
    constructor
    ·rfl
    ·rfl
   refine Jd (P := fun W => K _ W) (fun W' hs hba => ?_); have HFq6 := Qa.mk (HF0.out.on hba); have BPq6 := Qa.mk (Qq BP0.out hba); have HBq6 := Qa.mk (Qj HB0.out hba); have BSq6 := Qa.mk hs; have GE := Qa.mk (Qo HB0.out); clear hs hba; refine hK.out _ _ ⟨(Qc HFq6.out.blk 0).trans (show _ = some _ from rfl), (Qc HFq6.out.blk 1).trans (show _ = some _ from rfl), (Qc HFq6.out.blk 2).trans (show _ = some _ from rfl), (Qc BPq6.out 8).trans (show _ = some _ from rfl), (Qc BPq6.out 9).trans (show _ = some _ from rfl)⟩ (fun hHeld => ?_); clear hK K; refine nN_ 6 ?_; refine on_ (i := 13) (N := some 33) #[true, true, true, true, true, true, true, true, true, true, true, true, true, true, true, true, true, true, true, true, true, true, true, false, false, true, false] (fun K hK => ?_); refine Vr Try.func146 (by kernel_rfl) rfl #[.slice B2 t2.length d2] (by rfl) rfl rfl (by (try simp only [List.map_toArray, List.map_cons, List.map_nil]); first | done | rfl) ?_; refine (Zy.calls k B2 d2 t2 jl _ (HT2.out _ (Fr.of_below (Uq HBd.out HBq6.out))) HL2.out HJS.out.1).mono ?_; rintro e w' ⟨rfl, hb⟩; refine ⟨_, rfl, ?_⟩; have HFq7 := Qa.mk (HFq6.out.on hb); have BPq7 := Qa.mk (Qq BPq6.out hb); have HBq7 := Qa.mk (Qj HBq6.out hb); have BSq7 := Qa.mk (Qq BSq6.out hb); clear hb; refine hK.out _ _ ⟨(Qc HFq7.out.blk 0).trans (show _ = some _ from rfl), (Qc HFq7.out.blk 1).trans (show _ = some _ from rfl), (Qc HFq7.out.blk 2).trans (show _ = some _ from rfl), (Qc BPq7.out 8).trans (show _ = some _ from rfl), (Qc BPq7.out 9).trans (show _ = some _ from rfl)⟩ (fun hHeld => ?_); clear hK K; refine nN_ 33 ?_; refine on_ (i := 23) (N := some 43) #[true, true, true, true, true, true, true, true, true, true, true, true, true, true, true, true, true, true, true, true, true, true, true, true, false, true, false] (fun K hK => ?_); refine Vr Try.func146 (by kernel_rfl) rfl #[.slice B3 t3.length d3] (by rfl) rfl rfl (by (try simp only [List.map_toArray, List.map_cons, List.map_nil]); first | done | rfl) ?_; refine (Zy.calls k B3 d3 t3 jr _ (HT3.out _ (Fr.of_below (Uq HBd.out HBq7.out))) HL3.out HJS.out.2).mono ?_; rintro e w' ⟨rfl, hb⟩; refine ⟨_, rfl, ?_⟩; have HFq8 := Qa.mk (HFq7.out.on hb); have BPq8 := Qa.mk (Qq BPq7.out hb); have HBq8 := Qa.mk (Qj HBq7.out hb); have BSq8 := Qa.mk (Qq BSq7.out hb); clear hb; refine hK.out _ _ ⟨(Qc HFq8.out.blk 0).trans (show _ = some _ from rfl), (Qc HFq8.out.blk 1).trans (show _ = some _ from rfl), (Qc HFq8.out.blk 2).trans (show _ = some _ from rfl), (Qc BPq8.out 8).trans (show _ = some _ from rfl), (Qc BPq8.out 9).trans (show _ = some _ from rfl)⟩ (fun hHeld => ?_); clear hK K; refine nN_ 43 ?_; refine pu_ (i := 24) (N := some 44) #[true, true, true, true, true, true, true, true, true, true, true, true, true, true, true, true, true, true, true, true, true, true, true, true, true, true, false] ?_; exact np_ (hJ _ _ ⟨hHeld, HFq8.out, BPq8.out, BSq8.out, HBq8.out, GE.out⟩)
 rintro s4 w4 ⟨hHeld, hf, hbp, hbs, hb, hge⟩; have HF4 := Qa.mk hf; have BP4 := Qa.mk hbp; have BS4 := Qa.mk hbs; have HB4 := Qa.mk hb; have GE4 := Qa.mk hge; clear hf hbp hbs hb hge HB0 HF0 BP0; refine np_ ?_; have hz0 := Qe BS4.out 0; have hy0 := (Qc BS4.out 0).trans (show _ = some _ from rfl); have hz0 := Qe BS4.out 0; have hy1 := (Qc BS4.out 1).trans (show _ = some _ from rfl); have hz1 := Qe BS4.out 1; have hy2 := (Qc BS4.out 2).trans (show _ = some _ from rfl); have hz2 := Qe BS4.out 2; have hy3 := (Qc BS4.out 3).trans (show _ = some _ from rfl); have hz3 := Qe BS4.out 3; have hy4 := (Qc BS4.out 4).trans (show _ = some _ from rfl); have hz4 := Qe BS4.out 4; have hy5 := (Qc BS4.out 5).trans (show _ = some _ from rfl); have hz5 := Qe BS4.out 5; have hy6 := (Qc BS4.out 6).trans (show _ = some _ from rfl); have hz6 := Qe BS4.out 6; have hy7 := (Qc BS4.out 7).trans (show _ = some _ from rfl); have hz7 := Qe BS4.out 7; have hy8 := (Qc BS4.out 8).trans (show _ = some _ from rfl); have hz8 := Qe BS4.out 8; refine Qbb (i := 26) (N := none) (bz_ 27 134217727) rfl rfl (Kx HT_.out (by kernel_rfl)) (by decide) (fun K hK => ?_); refine Jz (w1 := ?_) (by rfl) rfl ?_ ?_; rotate_left
 ·go_simp
  rfl
 refine hK.out _ _ ?_; clear hK K; refine Ki (Vq HT_.out (by kernel_rfl)) ?_; clear hHeld hy0 hz0 hy1 hz1 hy2 hz2 hy3 hz3 hy4 hz4 hy5 hz5 hy6 hz6 hy7 hz7 hy8 hz8; have hlt4 := Zu BS4.out; have hpb : w.heap.size < s4 := Nat.lt_of_lt_of_le (Zu BPd.out) GE4.out; have hgp : g < w.heap.size := Zu HF.out.blk; have hgb : g < s4 := Nat.lt_of_lt_of_le (Zu HFd.out.blk) GE4.out; have HX4 := Qa.mk (HFd.out.shrink HB4.out s4 GE4.out hlt4); have HFr := Qa.mk (Fr.of_below (ok := ok) (g := g) (Qj HBd.out HB4.out)); have hge0 : w0.heap.size ≤ s4 := Nat.le_trans HF.out.below.size (Nat.le_of_lt hpb); have HF5 := Qa.mk (Bld.far (p := ⟨s4, 8, none⟩) (Bld.far (p := ⟨s4, 7, none⟩) (Bld.far (p := ⟨s4, 6, none⟩) (Bld.far (p := ⟨s4, 5, none⟩) (Bld.far (p := ⟨s4, 4, none⟩) (Bld.far (p := ⟨s4, 3, none⟩) (Bld.far (p := ⟨s4, 2, none⟩) (Bld.far (p := ⟨s4, 1, none⟩) (Bld.far (p := ⟨s4, 0, none⟩) HX4.out (.string lb.f0) (fun e => e.2 rfl) (Nat.ne_of_lt hgb) hge0) (.string lb.f1) (fun e => e.2 rfl) (Nat.ne_of_lt hgb) hge0) (.string lb.f2) (fun e => e.2 rfl) (Nat.ne_of_lt hgb) hge0) (.bool true) (fun e => e.2 rfl) (Nat.ne_of_lt hgb) hge0) (.string ⟨#[]⟩) (fun e => e.2 rfl) (Nat.ne_of_lt hgb) hge0) (.string jl) (fun e => e.2 rfl) (Nat.ne_of_lt hgb) hge0) (.string ⟨#[]⟩) (fun e => e.2 rfl) (Nat.ne_of_lt hgb) hge0) (.string jr) (fun e => e.2 rfl) (Nat.ne_of_lt hgb) hge0) (.bool false) (fun e => e.2 rfl) (Nat.ne_of_lt hgb) hge0); have BS5 := Qa.mk (Qox BS4.out (.string lb.f0) (.string lb.f1) (.string lb.f2) (.bool true) (.string ⟨#[]⟩) (.string jl) (.string ⟨#[]⟩) (.string jr) (.bool false)); have BP5 := Qa.mk (Yt (p := ⟨s4, 8, none⟩) (Yt (p := ⟨s4, 7, none⟩) (Yt (p := ⟨s4, 6, none⟩) (Yt (p := ⟨s4, 5, none⟩) (Yt (p := ⟨s4, 4, none⟩) (Yt (p := ⟨s4, 3, none⟩) (Yt (p := ⟨s4, 2, none⟩) (Yt (p := ⟨s4, 1, none⟩) (Yt (p := ⟨s4, 0, none⟩) BP4.out (Nat.ne_of_lt hpb) (.string lb.f0)) (Nat.ne_of_lt hpb) (.string lb.f1)) (Nat.ne_of_lt hpb) (.string lb.f2)) (Nat.ne_of_lt hpb) (.bool true)) (Nat.ne_of_lt hpb) (.string ⟨#[]⟩)) (Nat.ne_of_lt hpb) (.string jl)) (Nat.ne_of_lt hpb) (.string ⟨#[]⟩)) (Nat.ne_of_lt hpb) (.string jr)) (Nat.ne_of_lt hpb) (.bool false)); have HR5 := Qa.mk (Fr.set (p := ⟨s4, 8, none⟩) (Fr.set (p := ⟨s4, 7, none⟩) (Fr.set (p := ⟨s4, 6, none⟩) (Fr.set (p := ⟨s4, 5, none⟩) (Fr.set (p := ⟨s4, 4, none⟩) (Fr.set (p := ⟨s4, 3, none⟩) (Fr.set (p := ⟨s4, 2, none⟩) (Fr.set (p := ⟨s4, 1, none⟩) (Fr.set (p := ⟨s4, 0, none⟩) HFr.out (.string lb.f0) (Nat.le_of_lt hpb)) (.string lb.f1) (Nat.le_of_lt hpb)) (.string lb.f2) (Nat.le_of_lt hpb)) (.bool true) (Nat.le_of_lt hpb)) (.string ⟨#[]⟩) (Nat.le_of_lt hpb)) (.string jl) (Nat.le_of_lt hpb)) (.string ⟨#[]⟩) (Nat.le_of_lt hpb)) (.string jr) (Nat.le_of_lt hpb)) (.bool false) (Nat.le_of_lt hpb)); clear HX4 HFr BS4 BP4 HF4 HB4
 generalize (((((((((w4.setCell ⟨s4, 0, none⟩ (.string lb.f0)).setCell ⟨s4, 1, none⟩ (.string lb.f1)).setCell ⟨s4, 2, none⟩ (.string lb.f2)).setCell ⟨s4, 3, none⟩ (.bool true)).setCell ⟨s4, 4, none⟩ (.string ⟨#[]⟩)).setCell ⟨s4, 5, none⟩ (.string jl)).setCell ⟨s4, 6, none⟩ (.string ⟨#[]⟩)).setCell ⟨s4, 7, none⟩ (.string jr)).setCell ⟨s4, 8, none⟩ (.bool false)) = w5 at HF5 BS5 BP5 HR5 ⊢
 have hlb5 : Below w.heap.size w5 w5 := Below.refl _ _; have hst := (Qc HF5.out.blk 3).trans (show _ = some (Value.int .i64 style) from rfl); have hp1 := (Qc BP5.out 7).trans (show _ = some (Value.slice A1 b1.length c1) from rfl)
 go_upto_if 49 with (fail)
 go_cut [] from 7 (fun W => Qa (Bld w0 W g (fun k => (ok k ∧ k ≠ w.heap.size) ∧ k ≠ s4) v lb style favour l) ∧ Qa (W.heap[s4]? = some (.cells (Qmg (Qdo lb style jb jl jr)) 120 (0, 0))) ∧ Qa (W.heap[w.heap.size]? = some (.cells #[.bool st, .int .i64 i0, .int .i64 i1, .int .i64 i2, .int .i64 i3, .int .i64 i4, .int .i64 i5, .slice A1 b1.length c1, .slice A2 b2.length c2, .slice A3 b3.length c3, .int .i64 cls] 184 (0, 0))) ∧ Qa (Fr ok g w W))
 case first =>
  by_cases h0 : style = 0
  ·have hs0 : (style == 0) = true := beq_iff_eq.mpr h0
   have hs0b : decide (style = 0) = true := decide_eq_true h0; have hy1 := (Qc BS5.out 1).trans (show _ = some (Value.string lb.f1) from rfl); have hz1 := Qe BS5.out 1; go_wp2_with fail
   go_meet
   case rel => exact ⟨⟨Bld.far (p := ⟨s4, 1, none⟩) HF5.out (.string ⟨#[]⟩) (fun e => e.2 rfl) (Nat.ne_of_lt hgb) hge0⟩, ⟨by rw [show Qdo lb style jb jl jr = ⟨⟨lb.f0, ⟨#[]⟩, lb.f2⟩, true, ⟨#[]⟩, jl, ⟨#[]⟩, jr, false⟩ from if_pos h0]; exact Za BS5.out 1 (.string ⟨#[]⟩) rfl⟩, ⟨Yt (p := ⟨s4, 1, none⟩) BP5.out (Nat.ne_of_lt hpb) (.string ⟨#[]⟩)⟩, ⟨Fr.set (p := ⟨s4, 1, none⟩) HR5.out (.string ⟨#[]⟩) (Nat.le_of_lt hpb)⟩⟩
  ·have hs0 : (style == 0) = false := beq_eq_false_iff_ne.mpr h0
   have hs0b : decide (style = 0) = false := decide_eq_false h0; go_wp2_with fail; refine (Zy.calls k A1 c1 b1 jb w5 (H1.out _ HR5.out) hc1 HJ.out.1).mono ?_; rintro e w6 ⟨rfl, hb⟩; have HF6 := Qa.mk (HF5.out.on hb); have BS6 := Qa.mk (Qq BS5.out hb); have BP6 := Qa.mk (Qq BP5.out hb); have HR6 := Qa.mk (HR5.out.trans (Fr.of_below hb)); clear hb HF5 BS5 BP5 HR5 hst hp1 hlb5; have hy8 := (Qc BS6.out 8).trans (show _ = some (Value.bool false) from rfl); have hy6 := (Qc BS6.out 6).trans (show _ = some (Value.string ⟨#[]⟩) from rfl); have hz8 := Qe BS6.out 8; have hz6 := Qe BS6.out 6; have hp2 := (Qc BP6.out 8).trans (show _ = some (Value.slice A2 b2.length c2) from rfl); go_wp2_with fail; clear hy8 hy6 hz8 hz6; have HF7 := Qa.mk (Bld.far (p := ⟨s4, 6, none⟩) (Bld.far (p := ⟨s4, 8, none⟩) HF6.out (.bool true) (fun e => e.2 rfl) (Nat.ne_of_lt hgb) hge0) (.string jb) (fun e => e.2 rfl) (Nat.ne_of_lt hgb) hge0); have BS7 : Qa (((w6.setCell ⟨s4, 8, none⟩ (.bool true)).setCell ⟨s4, 6, none⟩ (.string jb)).heap[s4]? = some (.cells #[.string lb.f0, .string lb.f1, .string lb.f2, .bool true, .string ⟨#[]⟩, .string jl, .string jb, .string jr, .bool true] 120 (0, 0))) := ⟨Qow BS6.out (.bool true) (.string jb)⟩; have BP7 := Qa.mk (Yt (p := ⟨s4, 6, none⟩) (Yt (p := ⟨s4, 8, none⟩) BP6.out (Nat.ne_of_lt hpb) (.bool true)) (Nat.ne_of_lt hpb) (.string jb)); have HR7 := Qa.mk (Fr.set (p := ⟨s4, 6, none⟩) (Fr.set (p := ⟨s4, 8, none⟩) HR6.out (.bool true) (Nat.le_of_lt hpb)) (.string jb) (Nat.le_of_lt hpb)); have eh : Qdo lb style jb jl jr = ⟨lb, true, ⟨#[]⟩, jl, jb, jr, true⟩ := if_neg h0
   go_meet
   case rel => exact ⟨HF7, ⟨by rw [eh]; exact BS7.out⟩, BP7, HR7⟩
 case rest =>
 clear HF5 BS5 BP5 HR5 hst hp1 hlb5; obtain ⟨HF7, BS7, BP7, HR7⟩ := hcut; obtain ⟨h_, eh_⟩ : ∃ h, Qdo lb style jb jl jr = h := ⟨_, rfl⟩
 rw [eh_] at BS7
 replace BS7 : Qa (wc.heap[s4]? = some (.cells #[.string h_.f0.f0, .string h_.f0.f1, .string h_.f0.f2, .bool h_.f1, .string h_.f2, .string h_.f3, .string h_.f4, .string h_.f5, .bool h_.f6] 120 (0, 0))) := ⟨BS7.out⟩; have hp2 := (Qc BP7.out 8).trans (show _ = some (Value.slice A2 b2.length c2) from rfl); go_wp2_with fail; clear hp2; refine (Xh.calls k g _ v lb style favour l A2 c2 t4 s1 w0 wc HF7.out (HT4.out _ HR7.out) HL4.out (by have := HLL.out; omega) HJ.out.2.1).mono ?_; rintro e w8 ⟨rfl, ⟨v8, hW⟩, hfr⟩; have HF8 := Qa.mk hW; have BS8 := Qa.mk ((hfr.2 _ (Zu BS7.out) (fun e => e.2 rfl) (Nat.ne_of_gt hgb)).trans BS7.out); have BP8 := Qa.mk ((hfr.2 _ (Zu BP7.out) (fun e => e.1.2 rfl) (Nat.ne_of_gt hgp)).trans BP7.out); have HR8 := Qa.mk (HR7.out.trans (hfr.mono (fun k e => e.1.1))); clear hW hfr HF7 BS7 BP7 HR7
 obtain ⟨A7, n7, c7, rfl⟩ : ∃ A n c, v8 = Value.slice A n c := by obtain ⟨A, c, h⟩ := Kd.R_slice HF8.out.own; exact ⟨A, _, c, h⟩
 have hv5 := (Qc HF8.out.blk 5).trans (show _ = some (Value.slice A7 n7 c7) from rfl); go_wp2_with fail; refine Ug (n := 11) (S := fun w' => w'.cell? ⟨g, 5, none⟩ = some (.slice A7 n7 c7) ∧ w'.cell? ⟨s4, 0, none⟩ = some (.string h_.f0.f0) ∧ w'.cell? ⟨s4, 1, none⟩ = some (.string h_.f0.f1) ∧ w'.cell? ⟨s4, 2, none⟩ = some (.string h_.f0.f2) ∧ w'.cell? ⟨s4, 3, none⟩ = some (.bool h_.f1) ∧ w'.cell? ⟨s4, 4, none⟩ = some (.string h_.f2) ∧ w'.cell? ⟨s4, 5, none⟩ = some (.string h_.f3) ∧ w'.cell? ⟨s4, 6, none⟩ = some (.string h_.f4) ∧ w'.cell? ⟨s4, 7, none⟩ = some (.string h_.f5) ∧ w'.cell? ⟨s4, 8, none⟩ = some (.bool h_.f6)) (ds := [10]) (bz_ 11 0) (by kernel_rfl) rfl rfl ⟨(Qc HF8.out.blk 5).trans (show _ = some _ from rfl), (Qc BS8.out 0).trans (show _ = some _ from rfl), (Qc BS8.out 1).trans (show _ = some _ from rfl), (Qc BS8.out 2).trans (show _ = some _ from rfl), (Qc BS8.out 3).trans (show _ = some _ from rfl), (Qc BS8.out 4).trans (show _ = some _ from rfl), (Qc BS8.out 5).trans (show _ = some _ from rfl), (Qc BS8.out 6).trans (show _ = some _ from rfl), (Qc BS8.out 7).trans (show _ = some _ from rfl), (Qc BS8.out 8).trans (show _ = some _ from rfl)⟩ (fun hHeld => ?_); refine Va Xc.tab9 Xc.bits9 (fun HT_ HW_ => ?_); have HFa := Qa.mk HF8.out.drew; have BSa := Qa.mk (Qp BS8.out); have BPa := Qa.mk (Qp BP8.out); have HRa := Qa.mk (HR8.out.trans (Fr.of_below (Qi (Below.refl _ _)))); clear hv5 HF8 BS8 BP8 HR8
 generalize w8.drew = wa at HFa BSa BPa HRa hHeld ⊢
 refine pu_ (i := 0) (N := some 63) #[true, false, false, false, false, false, false, false, false, false, false] ?_; refine pu_ (i := 1) (N := some 64) #[true, true, false, false, false, false, false, false, false, false, false] ?_; refine pu_ (i := 2) (N := some 65) #[true, true, true, false, false, false, false, false, false, false, false] ?_; refine pu_ (i := 3) (N := some 66) #[true, true, true, true, false, false, false, false, false, false, false] ?_; refine ta_ (i := 4) (N := some 67) #[true, true, true, true, true, false, false, false, false, false, false] ?_; refine ta_ (i := 5) (N := some 68) #[true, true, true, true, true, true, false, false, false, false, false] ?_; refine on_ (i := 6) (N := some 69) #[true, true, true, true, true, true, true, false, false, false, false] (fun K hK => ?_); refine Kh (w1 := ?_) (v := ?_) (by rfl) rfl ?_ ?_; rotate_left 2
 ·go_simp
  constructor
  ·rfl
  ·rfl
 refine hK.out _ _ ⟨(Qc (Ql HFa.out.blk _) 5).trans (show _ = some _ from rfl), (Qc (Ql BSa.out _) 0).trans (show _ = some _ from rfl), (Qc (Ql BSa.out _) 1).trans (show _ = some _ from rfl), (Qc (Ql BSa.out _) 2).trans (show _ = some _ from rfl), (Qc (Ql BSa.out _) 3).trans (show _ = some _ from rfl), (Qc (Ql BSa.out _) 4).trans (show _ = some _ from rfl), (Qc (Ql BSa.out _) 5).trans (show _ = some _ from rfl), (Qc (Ql BSa.out _) 6).trans (show _ = some _ from rfl), (Qc (Ql BSa.out _) 7).trans (show _ = some _ from rfl), (Qc (Ql BSa.out _) 8).trans (show _ = some _ from rfl)⟩ (fun hHeld => ?_); clear hK K; refine nN_ 69 ?_; refine on_ (i := 7) (N := some 70) #[true, true, true, true, true, true, true, true, false, false, false] (fun K hK => ?_); refine Kd.R_append_step Je (w0 := w0) w0.heap.size (by rfl) (.tmp 67) (.tmp 69) 88 120 (.agg #[(.string ⟨#[]⟩), (.string ⟨#[]⟩), (.string ⟨#[]⟩), (.bool false), (.string ⟨#[]⟩), (.string ⟨#[]⟩), (.string ⟨#[]⟩), (.string ⟨#[]⟩), (.bool false)]) 128 rfl Try.underlying88 Qcy rfl (by decide) (by decide) (.slice A7 n7 c7) (l ++ [Yn s1]) h_ [.string h_.f0.f0, .string h_.f0.f1, .string h_.f0.f2, .bool h_.f1, .string h_.f2, .string h_.f3, .string h_.f4, .string h_.f5, .bool h_.f6] (fun k => (ok k ∧ k ≠ w.heap.size) ∧ k ≠ s4) (fun _ => False) rfl rfl (Qba _ _ _ h_) (fun _ hk => hk.elim) ?aF HFa.out.own HFa.out.below HFa.out.below.size ?aL ?_
 (case aF => exact fun k hk => HFa.out.fresh k hk)
 (case aL => have := HLL.out; simp only [List.length_append, List.length_cons, List.length_nil]; omega)
 intro v4 w9 ho hb hg hat; have HO4 := Qa.mk ho; have HB9 := Qa.mk hb; have HG4 := Qa.mk hg; have HK4 := Qa.mk (Ym HFa.out.blk hg (Kd.R_away HFa.out.own (fun _ hk e => HFa.out.nog (e ▸ hk)))); have BS9 := Qa.mk (Ym BSa.out hg (Kd.R_away HFa.out.own (fun _ hk e => hk.2 e))); have BP9 := Qa.mk (Ym BPa.out hg (Kd.R_away HFa.out.own (fun _ hk e => hk.1.2 e))); clear ho hb hg hat; obtain ⟨A4, n4, c4, rfl⟩ : ∃ A n c, v4 = Value.slice A n c := (by obtain ⟨A, c, h⟩ := Kd.R_slice HO4.out; exact ⟨A, _, c, h⟩); have hh3 := (Qc HK4.out 5).trans (show _ = some (Value.slice A7 n7 c7) from rfl); have hh4 := Qe HK4.out 5; refine hK.out _ _ ⟨(Qc HK4.out 5).trans (show _ = some _ from rfl), (Qc BS9.out 0).trans (show _ = some _ from rfl), (Qc BS9.out 1).trans (show _ = some _ from rfl), (Qc BS9.out 2).trans (show _ = some _ from rfl), (Qc BS9.out 3).trans (show _ = some _ from rfl), (Qc BS9.out 4).trans (show _ = some _ from rfl), (Qc BS9.out 5).trans (show _ = some _ from rfl), (Qc BS9.out 6).trans (show _ = some _ from rfl), (Qc BS9.out 7).trans (show _ = some _ from rfl), (Qc BS9.out 8).trans (show _ = some _ from rfl)⟩ (fun hHeld => ?_); clear hK K; refine nN_ 70 ?_; refine pu_ (i := 8) (N := some 71) #[true, true, true, true, true, true, true, true, true, false, false] ?_; refine pu_ (i := 9) (N := some 72) #[true, true, true, true, true, true, true, true, true, true, false] ?_; refine Qbb (i := 10) (N := none) (bz_ 11 2047) rfl rfl (Kx HT_.out (by kernel_rfl)) (by decide) (fun K hK => ?_); refine Jz (w1 := ?_) (by rfl) rfl ?_ ?_; rotate_left
 ·go_simp
  rfl
 refine hK.out _ _ ?_; clear hK K hh3 hh4 hHeld; refine Ki (Vq HT_.out (by kernel_rfl)) ?_; have HFb : Qa (Bld w0 (w9.setCell ⟨g, 5, none⟩ (.slice A4 n4 c4)) g (fun k => (ok k ∧ k ≠ w.heap.size) ∧ k ≠ s4) (.slice A4 n4 c4) lb style favour ((l ++ [Yn s1]) ++ [h_])) := ⟨⟨HB9.out.setCell HFa.out.ge _, HFa.out.ge, Za HK4.out 5 _ rfl, Kd.R_far HO4.out (p := ⟨g, 5, none⟩) (fun k hk e => HFa.out.nog (by have e2 : k = g := e; rw [← e2]; exact hk)) _, HFa.out.nog, fun k hk => HFa.out.fresh k (by rw [Kp] at hk; exact Nat.le_trans HG4.out.size hk)⟩⟩; have BPb := Qa.mk (Yt (p := ⟨g, 5, none⟩) BP9.out (Nat.ne_of_gt hgp) (.slice A4 n4 c4)); have HRb : Qa (Fr ok g w (w9.setCell ⟨g, 5, none⟩ (.slice A4 n4 c4))) := ⟨HRa.out.trans ⟨by rw [Kp]; exact HG4.out.size, fun k hk hnk hkg => by rw [Below.heap_setCell w9 ⟨g, 5, none⟩ _ k hkg, HG4.out.block k hk (Kd.R_away HFa.out.own (fun j hj e => hnk (e ▸ hj.1.1)))]⟩⟩; clear HFa BSa BPa HRa HO4 HB9 HG4 HK4 BS9 BP9 HT_ HW_
 generalize w9.setCell ⟨g, 5, none⟩ (.slice A4 n4 c4) = wb at HFb BPb HRb ⊢
 have hp2 := (Qc BPb.out 8).trans (show _ = some (Value.slice A2 b2.length c2) from rfl); go_wp2_with fail; refine (Xh.calls k g _ _ lb style favour _ B5 d5 t5 s3 w0 wb HFb.out (HT5.out _ HRb.out) HL5.out (by have := HLL.out; simp only [List.length_append, List.length_cons, List.length_nil]; omega) HJ.out.2.2).mono ?_; rintro e wc ⟨rfl, ⟨vc, hW⟩, hfr⟩; clear hp2
 try go_wp2
 go_end0; rw [eh_]; refine ⟨rfl, ⟨vc, ?_⟩, HRb.out.trans (hfr.mono (fun k e => e.1.1))⟩; have hW2 := hW.widen (ok := ok) (fun k e => e.1.1) HF.out.nog
 simpa only [List.append_assoc, List.cons_append, List.nil_append] using hW2
theorem Qih {α : Type} {d : Kd α} {w w1 : World} {ok : Nat → Prop} {A : Option Addr} {n : Nat} {xs : List α} (h : Kd.F d w ok A n xs) (hb : Below w.heap.size w w1) : Kd.F d w1 ok A n xs := Kd.F_mono (Kd.F_old h hb) (fun _ hk => hk.1)
def Qfu (k : Nat) (lb : Vz) (style n m : Int) (b1 b2 b3 : List ByteArray) : Option (List Yv) :=
 if 0 ≤ n ∧ 0 ≤ m ∧ n + m ≤ (b2.length : Int) ∧ n + m ≤ (b3.length : Int) then
  (Zy.f k b1).bind fun jb => (Zy.f k ((b2.take ((b2.length : Int) - m).toNat).drop n.toNat)).bind fun jl => (Zy.f k ((b3.take ((b3.length : Int) - m).toNat).drop n.toNat)).bind fun jr =>
  (Zy.f k (b2.take n.toNat)).bind fun s1 => (Zy.f k (b2.drop ((b2.length : Int) - m).toNat)).bind fun s3 => some [Yn s1, Qdo lb style jb jl jr, Yn s3]
 else none
def Qbz (k : Nat) (lb : Vz) (style favour cls : Int) (b1 b2 b3 : List ByteArray) : Option (List Yv) :=
 if cls = 4 ∧ favour = 0 then (if style = 2 then Vd.f k b2 b3 else some (0, 0)).bind fun nm => Qfu k lb style nm.1 nm.2 b1 b2 b3
 else (Zy.f k (Qen cls favour b1 b2 b3)).bind fun s => some [Yn s]
set_option maxHeartbeats 8000000 in
set_option maxRecDepth 100000 in
theorem Ue.all (k : Nat) (g : Nat) (ok : Nat → Prop) (v : Value) (lb : Vz) (style favour : Int) (l : List Yv) (st : Bool) (i0 i1 i2 i3 i4 i5 : Int) (cls : Int)
  (A1 : Option Addr) (c1 : Nat) (b1 : List ByteArray) (A2 : Option Addr) (c2 : Nat) (b2 : List ByteArray) (A3 : Option Addr) (c3 : Nat) (b3 : List ByteArray) (w0 w : World) (hF : Bld w0 w g ok v lb style favour l)
  (hr1 : Kd.F Kd.string w (fun k => ¬ ok k ∧ k ≠ g) A1 b1.length b1) (hc1 : b1.length ≤ c1) (hr2 : Kd.F Kd.string w (fun k => ¬ ok k ∧ k ≠ g) A2 b2.length b2) (hc2 : b2.length ≤ c2) (hr3 : Kd.F Kd.string w (fun k => ¬ ok k ∧ k ≠ g) A3 b3.length b3) (hc3 : b3.length ≤ c3)
  (h4 : cls = 0 ∨ cls = 1 ∨ cls = 2 ∨ cls = 3 ∨ cls = 4) (h0 : favour = 0 ∨ favour = 1 ∨ favour = 3) (hl : l.length ≤ 900000000) (out : List Yv) (h : Qbz k lb style favour cls b1 b2 b3 = some out) :
  Calls Try.prog 119 #[.pointer (some ⟨g, 0, none⟩), .agg #[.bool st, .int .i64 i0, .int .i64 i1, .int .i64 i2, .int .i64 i3, .int .i64 i4, .int .i64 i5, .slice A1 b1.length c1, .slice A2 b2.length c2, .slice A3 b3.length c3, .int .i64 cls]] w fun e w' => e = .returned (.tuple #[]) ∧ (∃ v', Bld w0 w' g ok v' lb style favour (l ++ out)) ∧ Fr ok g w w' := by
 have HF := Qa.mk hF; have H1 := Qa.mk (fun W' (h : Fr ok g w W') => hr1 W' (fun k hk hlt => h.2 k hlt hk.1 hk.2)); have H2 := Qa.mk (fun W' (h : Fr ok g w W') => hr2 W' (fun k hk hlt => h.2 k hlt hk.1 hk.2)); have H3 := Qa.mk (fun W' (h : Fr ok g w W') => hr3 W' (fun k hk hlt => h.2 k hlt hk.1 hk.2)); have G1 := Qa.mk hr1; have G2 := Qa.mk hr2; have G3 := Qa.mk hr3; have HL := Qa.mk hl; have HC := Qa.mk (And.intro hc1 (And.intro hc2 hc3)); clear hF hr1 hr2 hr3 hl hc1 hc2 hc3; have hu181 := Try.underlying181; have hu184 := Try.underlying184
 unfold Qbz at h
 rcases h4 with rfl | rfl | rfl | rfl | rfl
 ·rw [if_neg (by omega)] at h
  replace h := Option.bind_eq_some_iff.1 h; obtain ⟨s, hj, ho⟩ := h; obtain rfl := Option.some.inj ho; have HJ : Qa (Zy.f k b1 = some s) := ⟨hj⟩; clear hj ho
  go_enter Try.func119, Try.ntmps119
  go_wp2_with (first | ((with_reducible refine Zd (N := 3) rfl ?_); refine Zc ?hg (N := 3) ?hd (cs := #[.bool st, .int .i64 i0, .int .i64 i1, .int .i64 i2, .int .i64 i3, .int .i64 i4, .int .i64 i5, .slice A1 b1.length c1, .slice A2 b2.length c2, .slice A3 b3.length c3, .int .i64 0]) (t := 184) ?hr ?_; (case hd => rfl); (case hg => rfl); (case hr => first | (go_simp; done) | (go_simp; rfl)); intro g0 hg w1 hbox hb; have HF1 := Qa.mk (HF.out.on hb); have hfa := (Qc HF1.out.blk 4).trans (show _ = some (Value.int .i64 favour) from rfl); have q0 := (Qc hbox 0).trans (show _ = some (Value.bool st) from rfl); have q1 := (Qc hbox 1).trans (show _ = some (Value.int .i64 i0) from rfl); have q2 := (Qc hbox 2).trans (show _ = some (Value.int .i64 i1) from rfl); have q3 := (Qc hbox 3).trans (show _ = some (Value.int .i64 i2) from rfl); have q4 := (Qc hbox 4).trans (show _ = some (Value.int .i64 i3) from rfl); have q5 := (Qc hbox 5).trans (show _ = some (Value.int .i64 i4) from rfl); have q6 := (Qc hbox 6).trans (show _ = some (Value.int .i64 i5) from rfl); have q7 := (Qc hbox 7).trans (show _ = some (Value.slice A1 b1.length c1) from rfl); have q8 := (Qc hbox 8).trans (show _ = some (Value.slice A2 b2.length c2) from rfl); have q9 := (Qc hbox 9).trans (show _ = some (Value.slice A3 b3.length c3) from rfl); have q10 := (Qc hbox 10).trans (show _ = some (Value.int .i64 0) from rfl); have HB1 := Qa.mk hb; clear hbox hb hg)); refine (Xh.calls k g ok v lb style favour l A1 c1 b1 s w0 w1 HF1.out (H1.out _ (Fr.of_below HB1.out)) HC.out.1 (by have := HL.out; omega) HJ.out).mono ?_; rintro e w2 ⟨rfl, hE, hfr⟩; have HE := Qa.mk hE; have HR := Qa.mk hfr; clear hE hfr
  try go_wp2
  go_end0; exact ⟨rfl, HE.out, (Fr.of_below HB1.out).trans HR.out⟩
 ·rw [if_neg (by omega)] at h
  replace h := Option.bind_eq_some_iff.1 h; obtain ⟨s, hj, ho⟩ := h; obtain rfl := Option.some.inj ho; have HJ : Qa (Zy.f k b2 = some s) := ⟨hj⟩; clear hj ho
  go_enter Try.func119, Try.ntmps119
  go_wp2_with (first | ((with_reducible refine Zd (N := 3) rfl ?_); refine Zc ?hg (N := 3) ?hd (cs := #[.bool st, .int .i64 i0, .int .i64 i1, .int .i64 i2, .int .i64 i3, .int .i64 i4, .int .i64 i5, .slice A1 b1.length c1, .slice A2 b2.length c2, .slice A3 b3.length c3, .int .i64 1]) (t := 184) ?hr ?_; (case hd => rfl); (case hg => rfl); (case hr => first | (go_simp; done) | (go_simp; rfl)); intro g0 hg w1 hbox hb; have HF1 := Qa.mk (HF.out.on hb); have hfa := (Qc HF1.out.blk 4).trans (show _ = some (Value.int .i64 favour) from rfl); have q0 := (Qc hbox 0).trans (show _ = some (Value.bool st) from rfl); have q1 := (Qc hbox 1).trans (show _ = some (Value.int .i64 i0) from rfl); have q2 := (Qc hbox 2).trans (show _ = some (Value.int .i64 i1) from rfl); have q3 := (Qc hbox 3).trans (show _ = some (Value.int .i64 i2) from rfl); have q4 := (Qc hbox 4).trans (show _ = some (Value.int .i64 i3) from rfl); have q5 := (Qc hbox 5).trans (show _ = some (Value.int .i64 i4) from rfl); have q6 := (Qc hbox 6).trans (show _ = some (Value.int .i64 i5) from rfl); have q7 := (Qc hbox 7).trans (show _ = some (Value.slice A1 b1.length c1) from rfl); have q8 := (Qc hbox 8).trans (show _ = some (Value.slice A2 b2.length c2) from rfl); have q9 := (Qc hbox 9).trans (show _ = some (Value.slice A3 b3.length c3) from rfl); have q10 := (Qc hbox 10).trans (show _ = some (Value.int .i64 1) from rfl); have HB1 := Qa.mk hb; clear hbox hb hg)); refine (Xh.calls k g ok v lb style favour l A2 c2 b2 s w0 w1 HF1.out (H2.out _ (Fr.of_below HB1.out)) HC.out.2.1 (by have := HL.out; omega) HJ.out).mono ?_; rintro e w2 ⟨rfl, hE, hfr⟩; have HE := Qa.mk hE; have HR := Qa.mk hfr; clear hE hfr
  try go_wp2
  go_end0; exact ⟨rfl, HE.out, (Fr.of_below HB1.out).trans HR.out⟩
 ·rw [if_neg (by omega)] at h
  replace h := Option.bind_eq_some_iff.1 h; obtain ⟨s, hj, ho⟩ := h; obtain rfl := Option.some.inj ho; have HJ : Qa (Zy.f k b3 = some s) := ⟨hj⟩; clear hj ho
  go_enter Try.func119, Try.ntmps119
  go_wp2_with (first | ((with_reducible refine Zd (N := 3) rfl ?_); refine Zc ?hg (N := 3) ?hd (cs := #[.bool st, .int .i64 i0, .int .i64 i1, .int .i64 i2, .int .i64 i3, .int .i64 i4, .int .i64 i5, .slice A1 b1.length c1, .slice A2 b2.length c2, .slice A3 b3.length c3, .int .i64 2]) (t := 184) ?hr ?_; (case hd => rfl); (case hg => rfl); (case hr => first | (go_simp; done) | (go_simp; rfl)); intro g0 hg w1 hbox hb; have HF1 := Qa.mk (HF.out.on hb); have hfa := (Qc HF1.out.blk 4).trans (show _ = some (Value.int .i64 favour) from rfl); have q0 := (Qc hbox 0).trans (show _ = some (Value.bool st) from rfl); have q1 := (Qc hbox 1).trans (show _ = some (Value.int .i64 i0) from rfl); have q2 := (Qc hbox 2).trans (show _ = some (Value.int .i64 i1) from rfl); have q3 := (Qc hbox 3).trans (show _ = some (Value.int .i64 i2) from rfl); have q4 := (Qc hbox 4).trans (show _ = some (Value.int .i64 i3) from rfl); have q5 := (Qc hbox 5).trans (show _ = some (Value.int .i64 i4) from rfl); have q6 := (Qc hbox 6).trans (show _ = some (Value.int .i64 i5) from rfl); have q7 := (Qc hbox 7).trans (show _ = some (Value.slice A1 b1.length c1) from rfl); have q8 := (Qc hbox 8).trans (show _ = some (Value.slice A2 b2.length c2) from rfl); have q9 := (Qc hbox 9).trans (show _ = some (Value.slice A3 b3.length c3) from rfl); have q10 := (Qc hbox 10).trans (show _ = some (Value.int .i64 2) from rfl); have HB1 := Qa.mk hb; clear hbox hb hg)); refine (Xh.calls k g ok v lb style favour l A3 c3 b3 s w0 w1 HF1.out (H3.out _ (Fr.of_below HB1.out)) HC.out.2.2 (by have := HL.out; omega) HJ.out).mono ?_; rintro e w2 ⟨rfl, hE, hfr⟩; have HE := Qa.mk hE; have HR := Qa.mk hfr; clear hE hfr
  try go_wp2
  go_end0; exact ⟨rfl, HE.out, (Fr.of_below HB1.out).trans HR.out⟩
 ·rw [if_neg (by omega)] at h
  replace h := Option.bind_eq_some_iff.1 h; obtain ⟨s, hj, ho⟩ := h; obtain rfl := Option.some.inj ho; have HJ : Qa (Zy.f k b2 = some s) := ⟨hj⟩; clear hj ho
  go_enter Try.func119, Try.ntmps119
  go_wp2_with (first | ((with_reducible refine Zd (N := 3) rfl ?_); refine Zc ?hg (N := 3) ?hd (cs := #[.bool st, .int .i64 i0, .int .i64 i1, .int .i64 i2, .int .i64 i3, .int .i64 i4, .int .i64 i5, .slice A1 b1.length c1, .slice A2 b2.length c2, .slice A3 b3.length c3, .int .i64 3]) (t := 184) ?hr ?_; (case hd => rfl); (case hg => rfl); (case hr => first | (go_simp; done) | (go_simp; rfl)); intro g0 hg w1 hbox hb; have HF1 := Qa.mk (HF.out.on hb); have hfa := (Qc HF1.out.blk 4).trans (show _ = some (Value.int .i64 favour) from rfl); have q0 := (Qc hbox 0).trans (show _ = some (Value.bool st) from rfl); have q1 := (Qc hbox 1).trans (show _ = some (Value.int .i64 i0) from rfl); have q2 := (Qc hbox 2).trans (show _ = some (Value.int .i64 i1) from rfl); have q3 := (Qc hbox 3).trans (show _ = some (Value.int .i64 i2) from rfl); have q4 := (Qc hbox 4).trans (show _ = some (Value.int .i64 i3) from rfl); have q5 := (Qc hbox 5).trans (show _ = some (Value.int .i64 i4) from rfl); have q6 := (Qc hbox 6).trans (show _ = some (Value.int .i64 i5) from rfl); have q7 := (Qc hbox 7).trans (show _ = some (Value.slice A1 b1.length c1) from rfl); have q8 := (Qc hbox 8).trans (show _ = some (Value.slice A2 b2.length c2) from rfl); have q9 := (Qc hbox 9).trans (show _ = some (Value.slice A3 b3.length c3) from rfl); have q10 := (Qc hbox 10).trans (show _ = some (Value.int .i64 3) from rfl); have HB1 := Qa.mk hb; clear hbox hb hg)); refine (Xh.calls k g ok v lb style favour l A2 c2 b2 s w0 w1 HF1.out (H2.out _ (Fr.of_below HB1.out)) HC.out.2.1 (by have := HL.out; omega) HJ.out).mono ?_; rintro e w2 ⟨rfl, hE, hfr⟩; have HE := Qa.mk hE; have HR := Qa.mk hfr; clear hE hfr
  try go_wp2
  go_end0; exact ⟨rfl, HE.out, (Fr.of_below HB1.out).trans HR.out⟩
 ·rcases h0 with rfl | rfl | rfl
  ·rw [if_pos ⟨rfl, rfl⟩] at h
   replace h := Option.bind_eq_some_iff.1 h; obtain ⟨⟨n, m⟩, hn, h⟩ := h
   unfold Qfu at h
   split at h
   case isFalse => cases h
   rename_i hnm
   obtain ⟨a2, a3, a4, a5⟩ := hnm; replace h := Option.bind_eq_some_iff.1 h; obtain ⟨jb, hjb, h⟩ := h; replace h := Option.bind_eq_some_iff.1 h; obtain ⟨jl, hjl, h⟩ := h; replace h := Option.bind_eq_some_iff.1 h; obtain ⟨jr, hjr, h⟩ := h; replace h := Option.bind_eq_some_iff.1 h; obtain ⟨s1, hs1, h⟩ := h; replace h := Option.bind_eq_some_iff.1 h; obtain ⟨s3, hs3, h⟩ := h; obtain rfl := Option.some.inj h; clear h
   have a1 : if style = 2 then Vd.f k b2 b3 = some (n, m) else n = 0 ∧ m = 0 := by
    by_cases e : style = 2
    ·rw [if_pos e] at hn ⊢; exact hn
    ·rw [if_neg e] at hn ⊢; cases hn; exact ⟨rfl, rfl⟩
   have HALL := Qa.mk (And.intro hjb (And.intro hjl (And.intro hjr (And.intro hs1 hs3)))); have HNM := Qa.mk (And.intro a1 (And.intro a2 (And.intro a3 (And.intro a4 a5)))); clear hjb hjl hjr hs1 hs3 hn a1 a2 a3 a4 a5
   go_enter Try.func119, Try.ntmps119
   go_wp2_with (first | ((with_reducible refine Zd (N := 3) rfl ?_); refine Zc ?hg (N := 3) ?hd (cs := #[.bool st, .int .i64 i0, .int .i64 i1, .int .i64 i2, .int .i64 i3, .int .i64 i4, .int .i64 i5, .slice A1 b1.length c1, .slice A2 b2.length c2, .slice A3 b3.length c3, .int .i64 4]) (t := 184) ?hr ?_; (case hd => rfl); (case hg => rfl); (case hr => first | (go_simp; done) | (go_simp; rfl)); intro g0 hg w1 hbox hb; have HF1 := Qa.mk (HF.out.on hb); have hfa := (Qc HF1.out.blk 4).trans (show _ = some (Value.int .i64 0) from rfl); have q0 := (Qc hbox 0).trans (show _ = some (Value.bool st) from rfl); have q1 := (Qc hbox 1).trans (show _ = some (Value.int .i64 i0) from rfl); have q2 := (Qc hbox 2).trans (show _ = some (Value.int .i64 i1) from rfl); have q3 := (Qc hbox 3).trans (show _ = some (Value.int .i64 i2) from rfl); have q4 := (Qc hbox 4).trans (show _ = some (Value.int .i64 i3) from rfl); have q5 := (Qc hbox 5).trans (show _ = some (Value.int .i64 i4) from rfl); have q6 := (Qc hbox 6).trans (show _ = some (Value.int .i64 i5) from rfl); have q7 := (Qc hbox 7).trans (show _ = some (Value.slice A1 b1.length c1) from rfl); have q8 := (Qc hbox 8).trans (show _ = some (Value.slice A2 b2.length c2) from rfl); have q9 := (Qc hbox 9).trans (show _ = some (Value.slice A3 b3.length c3) from rfl); have q10 := (Qc hbox 10).trans (show _ = some (Value.int .i64 4) from rfl); have HB1 := Qa.mk hb; clear hbox hb hg)); obtain ⟨a1, a2, a3, a4, a5⟩ := HNM.out; obtain ⟨b1', b2', b3', b4', b5'⟩ := HALL.out; refine (Xc.all k g ok v lb style 0 l st i0 i1 i2 i3 i4 i5 4 A1 c1 b1 A2 c2 b2 A3 c3 b3 w0 w1 HF1.out (Qih G1.out HB1.out) HC.out.1 (Qih G2.out HB1.out) HC.out.2.1 (Qih G3.out HB1.out) HC.out.2.2 n m a1 a2 a3 a4 a5 HL.out jb jl jr s1 s3 b1' b2' b3' b4' b5').mono ?_; rintro e w2 ⟨rfl, hE, hfr⟩; have HE := Qa.mk hE; have HR := Qa.mk hfr; clear hE hfr
   try go_wp2
   go_end0; exact ⟨rfl, HE.out, (Fr.of_below HB1.out).trans HR.out⟩
  ·rw [if_neg (by omega)] at h
   replace h := Option.bind_eq_some_iff.1 h; obtain ⟨s, hj, ho⟩ := h; obtain rfl := Option.some.inj ho; have HJ : Qa (Zy.f k b2 = some s) := ⟨hj⟩; clear hj ho
   go_enter Try.func119, Try.ntmps119
   go_wp2_with (first | ((with_reducible refine Zd (N := 3) rfl ?_); refine Zc ?hg (N := 3) ?hd (cs := #[.bool st, .int .i64 i0, .int .i64 i1, .int .i64 i2, .int .i64 i3, .int .i64 i4, .int .i64 i5, .slice A1 b1.length c1, .slice A2 b2.length c2, .slice A3 b3.length c3, .int .i64 4]) (t := 184) ?hr ?_; (case hd => rfl); (case hg => rfl); (case hr => first | (go_simp; done) | (go_simp; rfl)); intro g0 hg w1 hbox hb; have HF1 := Qa.mk (HF.out.on hb); have hfa := (Qc HF1.out.blk 4).trans (show _ = some (Value.int .i64 1) from rfl); have q0 := (Qc hbox 0).trans (show _ = some (Value.bool st) from rfl); have q1 := (Qc hbox 1).trans (show _ = some (Value.int .i64 i0) from rfl); have q2 := (Qc hbox 2).trans (show _ = some (Value.int .i64 i1) from rfl); have q3 := (Qc hbox 3).trans (show _ = some (Value.int .i64 i2) from rfl); have q4 := (Qc hbox 4).trans (show _ = some (Value.int .i64 i3) from rfl); have q5 := (Qc hbox 5).trans (show _ = some (Value.int .i64 i4) from rfl); have q6 := (Qc hbox 6).trans (show _ = some (Value.int .i64 i5) from rfl); have q7 := (Qc hbox 7).trans (show _ = some (Value.slice A1 b1.length c1) from rfl); have q8 := (Qc hbox 8).trans (show _ = some (Value.slice A2 b2.length c2) from rfl); have q9 := (Qc hbox 9).trans (show _ = some (Value.slice A3 b3.length c3) from rfl); have q10 := (Qc hbox 10).trans (show _ = some (Value.int .i64 4) from rfl); have HB1 := Qa.mk hb; clear hbox hb hg)); refine (Xh.calls k g ok v lb style 1 l A2 c2 b2 s w0 w1 HF1.out (H2.out _ (Fr.of_below HB1.out)) HC.out.2.1 (by have := HL.out; omega) HJ.out).mono ?_; rintro e w2 ⟨rfl, hE, hfr⟩; have HE := Qa.mk hE; have HR := Qa.mk hfr; clear hE hfr
   try go_wp2
   go_end0; exact ⟨rfl, HE.out, (Fr.of_below HB1.out).trans HR.out⟩
  ·rw [if_neg (by omega)] at h
   replace h := Option.bind_eq_some_iff.1 h; obtain ⟨s, hj, ho⟩ := h; obtain rfl := Option.some.inj ho; have HJ : Qa (Zy.f k b3 = some s) := ⟨hj⟩; clear hj ho
   go_enter Try.func119, Try.ntmps119
   go_wp2_with (first | ((with_reducible refine Zd (N := 3) rfl ?_); refine Zc ?hg (N := 3) ?hd (cs := #[.bool st, .int .i64 i0, .int .i64 i1, .int .i64 i2, .int .i64 i3, .int .i64 i4, .int .i64 i5, .slice A1 b1.length c1, .slice A2 b2.length c2, .slice A3 b3.length c3, .int .i64 4]) (t := 184) ?hr ?_; (case hd => rfl); (case hg => rfl); (case hr => first | (go_simp; done) | (go_simp; rfl)); intro g0 hg w1 hbox hb; have HF1 := Qa.mk (HF.out.on hb); have hfa := (Qc HF1.out.blk 4).trans (show _ = some (Value.int .i64 3) from rfl); have q0 := (Qc hbox 0).trans (show _ = some (Value.bool st) from rfl); have q1 := (Qc hbox 1).trans (show _ = some (Value.int .i64 i0) from rfl); have q2 := (Qc hbox 2).trans (show _ = some (Value.int .i64 i1) from rfl); have q3 := (Qc hbox 3).trans (show _ = some (Value.int .i64 i2) from rfl); have q4 := (Qc hbox 4).trans (show _ = some (Value.int .i64 i3) from rfl); have q5 := (Qc hbox 5).trans (show _ = some (Value.int .i64 i4) from rfl); have q6 := (Qc hbox 6).trans (show _ = some (Value.int .i64 i5) from rfl); have q7 := (Qc hbox 7).trans (show _ = some (Value.slice A1 b1.length c1) from rfl); have q8 := (Qc hbox 8).trans (show _ = some (Value.slice A2 b2.length c2) from rfl); have q9 := (Qc hbox 9).trans (show _ = some (Value.slice A3 b3.length c3) from rfl); have q10 := (Qc hbox 10).trans (show _ = some (Value.int .i64 4) from rfl); have HB1 := Qa.mk hb; clear hbox hb hg)); refine (Xh.calls k g ok v lb style 3 l A3 c3 b3 s w0 w1 HF1.out (H3.out _ (Fr.of_below HB1.out)) HC.out.2.2 (by have := HL.out; omega) HJ.out).mono ?_; rintro e w2 ⟨rfl, hE, hfr⟩; have HE := Qa.mk hE; have HR := Qa.mk hfr; clear hE hfr
   try go_wp2
   go_end0; exact ⟨rfl, HE.out, (Fr.of_below HB1.out).trans HR.out⟩
def Qhv (k : Nat) (lb : Vz) (style favour : Int) (l0 l1 l2 : List ByteArray) : List S78 → List Yv → Option (List Yv)
 | [], acc => some acc
 | c :: r, acc => if acc.length ≤ 900000000 then (Xn.f k l0 l1 l2 c.f0 c.f1.f0 c.f1.f1 c.f2.f0 c.f2.f1 c.f3.f0 c.f3.f1).bind fun t =>
   if t.2.2.2.2.2.2.2.2.2.2 = 0 ∨ t.2.2.2.2.2.2.2.2.2.2 = 1 ∨ t.2.2.2.2.2.2.2.2.2.2 = 2 ∨ t.2.2.2.2.2.2.2.2.2.2 = 3 ∨ t.2.2.2.2.2.2.2.2.2.2 = 4 then
    (Qbz k lb style favour t.2.2.2.2.2.2.2.2.2.2 t.2.2.2.2.2.2.2.1 t.2.2.2.2.2.2.2.2.1 t.2.2.2.2.2.2.2.2.2.1).bind fun s => Qhv k lb style favour l0 l1 l2 r (acc ++ s) else none
  else none
def Ud (style favour : Int) : Bool := decide (style < 0 ∨ 2 < style ∨ (favour ≠ 0 ∧ favour ≠ 1 ∧ favour ≠ 3))
def Qeq (k : Nat) (l0 l1 l2 : List ByteArray) (cs : List S78) (style : Int) (lb : Vz) (favour : Int) : Option (List Yv × Int) :=
 if Ud style favour = true then some ([], 5) else (Xt.f k lb.f0 lb.f1 lb.f2).bind fun p => if p = false then some ([], 3) else
  (Qhv k lb style favour l0 l1 l2 cs []).bind fun ps => (Yo.f k ps).bind fun d => some (d, 0)
set_option maxHeartbeats 8000000 in
set_option maxRecDepth 100000 in
theorem Uv.all (k : Nat) (a3 : Option Addr) (a4 : Nat) (a0 : List ByteArray) (a5 : Option Addr) (a6 : Nat) (a1 : List ByteArray) (a7 : Option Addr) (a8 : Nat) (a2 : List ByteArray) (A1 : Option Addr) (c1 : Nat) (l1 : List (S78)) (style : Int) (lb : Vz) (favour : Int) (d : List Yv) (er : Int) (w : World) (hr0_0 : Kd.C Kd.string w a3 a0.length a0) (hc0_0 : a0.length ≤ a4) (hr0_1 : Kd.C Kd.string w a5 a1.length a1) (hc0_1 : a1.length ≤ a6) (hr0_2 : Kd.C Kd.string w a7 a2.length a2) (hc0_2 : a2.length ≤ a8) (hr1 : Kd.C k78 w A1 l1.length l1) (hc1 : l1.length ≤ c1) (h : Qeq k a0 a1 a2 l1 style lb favour = some (d, er)) :
  Calls Try.prog 73 #[.agg #[.slice a3 a0.length a4, .slice a5 a1.length a6, .slice a7 a2.length a8], .slice A1 l1.length c1, .int .i64 style, .agg #[.string lb.f0, .string lb.f1, .string lb.f2], .int .i64 favour] w fun e w' => ∃ v0_ : Value, e = .returned (.tuple #[v0_, .int .i64 er]) ∧ Kd.R Je 120 w' w.heap.size (fun _ => True) v0_ d ∧ Below w.heap.size w w' := by
 unfold Qeq at h
 have HH := Qa.mk h; clear h; have HA0 := Qa.mk (And.intro hr0_0 hc0_0); have HA1 := Qa.mk (And.intro hr0_1 hc0_1); have HA2 := Qa.mk (And.intro hr0_2 hc0_2); have HR1 := Qa.mk (And.intro hr1 hc1); have HNN : Qa (l1.length ≤ 9223372036854775807) := ⟨hr1.2.1⟩; clear hr0_0 hc0_0 hr0_1 hc0_1 hr0_2 hc0_2 hr1 hc1; have hu112 := Try.underlying112; have hu116 := Try.underlying116; have hu181 := Try.underlying181; have hu78 := Try.underlying78
 go_enter Try.func73, Try.ntmps73
 go_upto_region 1 with (first | ((with_reducible refine Zd (N := 5) rfl ?_); refine Zc ?hg (N := 5) ?hd (cs := #[.slice a3 a0.length a4, .slice a5 a1.length a6, .slice a7 a2.length a8]) (t := 112) ?hr ?_; (case hd => rfl); (case hg => rfl); (case hr => first | (go_simp; done) | (go_simp; rfl)); intro f5 hg w1 hbox hb; have BF1 := Qa.mk hbox; have HB1 := Qa.mk hb; have GE5 : Qa (w.heap.size ≤ f5) := ⟨Nat.le_of_eq hg.symm⟩; clear hg hbox hb) | ((with_reducible refine Zd (N := 8) rfl ?_); refine Zc ?hg (N := 8) ?hd (cs := #[.string lb.f0, .string lb.f1, .string lb.f2]) (t := 116) ?hr ?_; (case hd => rfl); (case hg => rfl); (case hr => first | (go_simp; done) | (go_simp; rfl)); intro f8 hg w2 hbox hb; have BL2 := Qa.mk hbox; have BF2 := Qa.mk (Qq BF1.out hb); have HB2 := Qa.mk (Qj HB1.out hb); have z0 := (Qc hbox 0).trans (show _ = some (Value.string lb.f0) from rfl); have z1 := (Qc hbox 1).trans (show _ = some (Value.string lb.f1) from rfl); have z2 := (Qc hbox 2).trans (show _ = some (Value.string lb.f2) from rfl); clear hg hbox hb BF1 HB1))
 clear z0 z1 z2
 go_cut [15] from 16 (fun v15 W => v15 = .bool (Ud style favour) ∧ Qa (W.heap[f5]? = some (.cells #[.slice a3 a0.length a4, .slice a5 a1.length a6, .slice a7 a2.length a8] 112 (0, 0))) ∧ Qa (W.heap[f8]? = some (.cells #[.string lb.f0, .string lb.f1, .string lb.f2] 116 (0, 0))) ∧ Qa (Below w.heap.size w W))
 case first =>
  by_cases s1 : style < 0
  ·have hbad : Ud style favour = true := decide_eq_true (.inl s1)
   have t1 : decide (style < 0) = true := decide_eq_true s1; go_wp2_with fail
   go_meet
   case rel => exact ⟨by rw [hbad], ⟨bk_ BF2.out⟩, ⟨bk_ BL2.out⟩, ⟨dr_ HB2.out⟩⟩
  ·have t1 : decide (style < 0) = false := decide_eq_false s1
   by_cases s2 : 2 < style
   ·have hbad : Ud style favour = true := decide_eq_true (.inr (.inl s2))
    have t2 : decide (2 < style) = true := decide_eq_true s2; go_wp2_with fail
    go_meet
    case rel => exact ⟨by rw [hbad], ⟨bk_ BF2.out⟩, ⟨bk_ BL2.out⟩, ⟨dr_ HB2.out⟩⟩
   ·have t2 : decide (2 < style) = false := decide_eq_false s2
    by_cases g0 : favour = 0
    ·subst g0
     have hbad : Ud style 0 = false := decide_eq_false (by omega); go_wp2_with fail
     go_meet
     case rel => exact ⟨by rw [hbad], ⟨bk_ BF2.out⟩, ⟨bk_ BL2.out⟩, ⟨dr_ HB2.out⟩⟩
    ·by_cases g1 : favour = 1
     ·subst g1
      have hbad : Ud style 1 = false := decide_eq_false (by omega); go_wp2_with fail
      go_meet
      case rel => exact ⟨by rw [hbad], ⟨bk_ BF2.out⟩, ⟨bk_ BL2.out⟩, ⟨dr_ HB2.out⟩⟩
     ·by_cases g3 : favour = 3
      ·subst g3
       have hbad : Ud style 3 = false := decide_eq_false (by omega); go_wp2_with fail
       go_meet
       case rel => exact ⟨by rw [hbad], ⟨bk_ BF2.out⟩, ⟨bk_ BL2.out⟩, ⟨dr_ HB2.out⟩⟩
      ·have hbad : Ud style favour = true := decide_eq_true (.inr (.inr ⟨g0, g1, g3⟩))
       have qf0a : decide (favour = 0) = false := decide_eq_false g0; have qf0b : (favour != 0) = true := bne_iff_ne.mpr g0; have qf0c : (favour == 0) = false := beq_eq_false_iff_ne.mpr g0; have qf1a : decide (favour = 1) = false := decide_eq_false g1; have qf1b : (favour != 1) = true := bne_iff_ne.mpr g1; have qf1c : (favour == 1) = false := beq_eq_false_iff_ne.mpr g1; have qf3a : decide (favour = 3) = false := decide_eq_false g3; have qf3b : (favour != 3) = true := bne_iff_ne.mpr g3; have qf3c : (favour == 3) = false := beq_eq_false_iff_ne.mpr g3; go_wp2_with fail
       go_meet
       case rel => exact ⟨by rw [hbad], ⟨bk_ BF2.out⟩, ⟨bk_ BL2.out⟩, ⟨dr_ HB2.out⟩⟩
 case rest =>
 clear BF2 BL2 HB2; obtain ⟨rfl, BF2, BL2, HB2⟩ := hcut; have z0 := (Qc BL2.out 0).trans (show _ = some (Value.string lb.f0) from rfl); have z1 := (Qc BL2.out 1).trans (show _ = some (Value.string lb.f1) from rfl); have z2 := (Qc BL2.out 2).trans (show _ = some (Value.string lb.f2) from rfl); have h := HH.out; clear HH
 cases hbad : Ud style favour with
 | true =>
  rw [if_pos hbad] at h
  obtain ⟨rfl, rfl⟩ : ([] : List Yv) = d ∧ (5 : Int) = er := by simpa using h
  go_wp2_with fail
  go_ret2
  exact ⟨_, rfl, Kd.R_nil _ _ _ _ _, HB2.out⟩
 | false =>
 rw [if_neg (by rw [hbad]; decide)] at h
 replace h := Option.bind_eq_some_iff.1 h; obtain ⟨p, hp, h⟩ := h; have HP := Qa.mk hp; have HH := Qa.mk h
 have hfv : favour = 0 ∨ favour = 1 ∨ favour = 3 := by
  have := of_decide_eq_false hbad
  omega
 have HFV := Qa.mk hfv; clear hp h hfv; go_wp2_with fail; refine (Xt.calls k lb.f0 lb.f1 lb.f2 p wc HP.out).mono ?_; rintro e w3 ⟨rfl, hb⟩; have BF3 := Qa.mk (Qq BF2.out hb); have BL3 := Qa.mk (Qq BL2.out hb); have HB3 := Qa.mk (Qj HB2.out hb); clear z0 z1 z2 hb BF2 BL2 HB2; have z0 := (Qc BL3.out 0).trans (show _ = some (Value.string lb.f0) from rfl); have z1 := (Qc BL3.out 1).trans (show _ = some (Value.string lb.f1) from rfl); have z2 := (Qc BL3.out 2).trans (show _ = some (Value.string lb.f2) from rfl); have h := HH.out; clear HH
 cases p with
 | false =>
  rw [if_pos rfl] at h
  obtain ⟨rfl, rfl⟩ : ([] : List Yv) = d ∧ (3 : Int) = er := by simpa using h
  go_wp2_with fail
  go_ret2
  exact ⟨_, rfl, Kd.R_nil _ _ _ _ _, HB3.out⟩
 | true =>
 rw [if_neg (by decide)] at h
 replace h := Option.bind_eq_some_iff.1 h; obtain ⟨ps, hgo, h⟩ := h; replace h := Option.bind_eq_some_iff.1 h; obtain ⟨dd, hd, h⟩ := h
 obtain ⟨rfl, rfl⟩ : dd = d ∧ (0 : Int) = er := by simpa using h
 have HD := Qa.mk hd; have HGO := Qa.mk hgo; clear h hd hgo; go_wp2_with (first | ((with_reducible refine Zd (N := 42) rfl ?_); refine Zc ?hg (N := 42) ?hd (cs := #[.string lb.f0, .string lb.f1, .string lb.f2, .int .i64 style, .int .i64 favour, .slice none 0 0]) (t := 181) ?hr ?_; (case hd => rfl); (case hg => rfl); (case hr => first | (go_simp; done) | (go_simp; rfl)); intro g hg w4 hbox hb; have BG4 := Qa.mk hbox; have BF4 := Qa.mk (Qq BF3.out hb); have HB4 := Qa.mk (Qj HB3.out hb); have GEg : Qa (w.heap.size ≤ g) := ⟨by rw [hg]; exact Qo HB3.out⟩; have NFG : Qa (f5 ≠ g) := ⟨by rw [hg]; exact Nat.ne_of_lt (Zu BF3.out)⟩; clear hg hbox hb BF3 BL3 HB3 z0 z1 z2)); have HBLD : Qa (Bld w w4 g (fun k => w4.heap.size ≤ k) (.slice none 0 0) lb style favour []) := ⟨⟨HB4.out, GEg.out, BG4.out, Kd.R_nil _ _ _ _ _, Nat.not_le.2 (Zu BG4.out), fun _ hk => hk⟩⟩; clear BG4
 go_loopg [45] l1.length (fun kq v45 W => ∃ (v : Value) (l : List Yv) (i : Nat), v45 = .int .i64 (i : Int) ∧ Qa (i + kq = l1.length) ∧ Qa (Bld w W g (fun k => w4.heap.size ≤ k) v lb style favour l) ∧ Qa (Fr (fun k => w4.heap.size ≤ k) g w4 W) ∧ Qa (Qhv k lb style favour a0 a1 a2 (l1.drop i) l = some ps))
 case atStart => exact ⟨_, [], 0, rfl, ⟨Nat.zero_add _⟩, HBLD, ⟨⟨Nat.le_refl _, fun _ _ _ _ => rfl⟩⟩, HGO⟩
 case round =>
  obtain ⟨v, l, i, rfl, HI, HW, HFR, HG⟩ := hrel
  cases gk with
  | succ k1 =>
   have hil : i < l1.length := by have := HI.out; omega
   have LT0 : Qa ((i : Int) < (l1.length : Int)) := ⟨by omega⟩; have lt0 : decide ((i : Int) < (l1.length : Int)) = true := decide_eq_true LT0.out; have lt0n : decide (i < l1.length) = true := decide_eq_true hil; have BFW := Qa.mk ((HFR.out.2 f5 (Zu BF4.out) (Nat.not_le.2 (Zu BF4.out)) NFG.out).trans BF4.out); have HCW := Qa.mk (Kd.C_below HR1.out.1 HW.out.below); obtain ⟨ad, ea, hx0, hx1, hx2, hx3, hx4, hx5, hx6⟩ := Qek HCW.out (i : Int) (by omega) LT0.out
   cases ea
   have hrd : Xm l1 (i : Int) = l1[i] := by simp [Xm, List.getD_eq_getElem?_getD, hil]
   rw [hrd, Int.toNat_natCast] at hx0 hx1 hx2 hx3 hx4 hx5 hx6
   have hg := HG.out
   rw [List.drop_eq_getElem_cons hil] at hg
   generalize l1[i] = ch at hx0 hx1 hx2 hx3 hx4 hx5 hx6 hg
   unfold Qhv at hg
   split at hg
   case isFalse => cases hg
   rename_i hll
   replace hg := Option.bind_eq_some_iff.1 hg; obtain ⟨⟨t0, t1, t2, t3, t4, t5, t6, b1, b2, b3, cls⟩, ht, hg⟩ := hg
   simp only at hg
   split at hg
   case isFalse => cases hg
   rename_i hcls
   replace hg := Option.bind_eq_some_iff.1 hg; obtain ⟨s, hs, hg⟩ := hg; have HCT := Qa.mk ht; have HLL := Qa.mk hll; have HCL := Qa.mk hcls; have HS := Qa.mk hs; have HGN := Qa.mk hg; have HWI : Qa (wrap64 ((i : Int) + 1) = ((i + 1 : Nat) : Int)) := ⟨by have := HNN.out; unfold wrap64; omega⟩; have p0t : ((0 : Int) ≤ (i : Int)) = True := eq_true (by omega); have lt0p := eq_true LT0.out; have lt0q : (i < l1.length) = True := eq_true hil; clear ht hll hcls hs hg HG hrd; go_wp2_with (first | ((with_reducible refine Zd (N := 14) rfl ?_); refine Zc ?hg (N := 14) ?hd (cs := #[.bool false, .int .i64 0, .int .i64 0, .int .i64 0, .int .i64 0, .int .i64 0, .int .i64 0]) (t := 78) ?hr ?_; (case hd => rfl); (case hg => rfl); (case hr => first | (go_simp; done) | (go_simp; rfl)); intro gb hg w5 hbox hb; have BC5 := Qa.mk hbox; have HB5 := Qa.mk hb; have BF5 := Qa.mk (Qq BFW.out hb); have GE := Qa.mk (Nat.le_of_eq hg.symm : wr.heap.size ≤ gb); have NE := Qa.mk ((by rw [hg]; exact Nat.ne_of_gt (Zu BFW.out)) : gb ≠ f5); have hne := NE.out; have hne' := Ne.symm NE.out; clear hg; have y0 := (Qc hbox 0).trans (show _ = some (Value.bool false) from rfl); have y1 := (Qc hbox 1).trans (show _ = some (Value.int .i64 0) from rfl); have y2 := (Qc hbox 2).trans (show _ = some (Value.int .i64 0) from rfl); have y3 := (Qc hbox 3).trans (show _ = some (Value.int .i64 0) from rfl); have y4 := (Qc hbox 4).trans (show _ = some (Value.int .i64 0) from rfl); have y5 := (Qc hbox 5).trans (show _ = some (Value.int .i64 0) from rfl); have y6 := (Qc hbox 6).trans (show _ = some (Value.int .i64 0) from rfl); obtain ⟨x0, x1, x2, x3, x4, x5, x6⟩ := Qdx hbox; have u0 := (Qc BF5.out 0).trans (show _ = some (Value.slice a3 a0.length a4) from rfl); have u1 := (Qc BF5.out 1).trans (show _ = some (Value.slice a5 a1.length a6) from rfl); have u2 := (Qc BF5.out 2).trans (show _ = some (Value.slice a7 a2.length a8) from rfl); clear hbox hb)); have HB6 : Qa (Below wr.heap.size wr (((((((w5.setCell ⟨gb, 0, none⟩ (.bool ch.f0)).setCell ⟨gb, 1, none⟩ (.int .i64 ch.f1.f0)).setCell ⟨gb, 2, none⟩ (.int .i64 ch.f1.f1)).setCell ⟨gb, 3, none⟩ (.int .i64 ch.f2.f0)).setCell ⟨gb, 4, none⟩ (.int .i64 ch.f2.f1)).setCell ⟨gb, 5, none⟩ (.int .i64 ch.f3.f0)).setCell ⟨gb, 6, none⟩ (.int .i64 ch.f3.f1))) := ⟨(Qr (j := 6) (v := .int .i64 ch.f3.f1) (Qr (j := 5) (v := .int .i64 ch.f3.f0) (Qr (j := 4) (v := .int .i64 ch.f2.f1) (Qr (j := 3) (v := .int .i64 ch.f2.f0) (Qr (j := 2) (v := .int .i64 ch.f1.f1) (Qr (j := 1) (v := .int .i64 ch.f1.f0) (Qr (j := 0) (v := .bool ch.f0) HB5.out GE.out) GE.out) GE.out) GE.out) GE.out) GE.out) GE.out)⟩; clear y0 y1 y2 y3 y4 y5 y6 x0 x1 x2 x3 x4 x5 x6 u0 u1 u2 hne hne' hx0 hx1 hx2 hx3 hx4 hx5 hx6
   generalize (((((((w5.setCell ⟨gb, 0, none⟩ (.bool ch.f0)).setCell ⟨gb, 1, none⟩ (.int .i64 ch.f1.f0)).setCell ⟨gb, 2, none⟩ (.int .i64 ch.f1.f1)).setCell ⟨gb, 3, none⟩ (.int .i64 ch.f2.f0)).setCell ⟨gb, 4, none⟩ (.int .i64 ch.f2.f1)).setCell ⟨gb, 5, none⟩ (.int .i64 ch.f3.f0)).setCell ⟨gb, 6, none⟩ (.int .i64 ch.f3.f1)) = w6 at HB6 ⊢
   have HB6' := Qa.mk (Qj HW.out.below HB6.out); refine (Xn.calls k a3 a4 a0 a5 a6 a1 a7 a8 a2 ch.f0 ch.f1.f0 ch.f1.f1 ch.f2.f0 ch.f2.f1 ch.f3.f0 ch.f3.f1 t0 t1 t2 t3 t4 t5 t6 b1 b2 b3 cls w6 (Kd.C_below HA0.out.1 HB6'.out) HA0.out.2 (Kd.C_below HA1.out.1 HB6'.out) HA1.out.2 (Kd.C_below HA2.out.1 HB6'.out) HA2.out.2 HCT.out).mono ?_; rintro e w7 ⟨v7, v8, v9, rfl, ho0, ho1, ho2, hb⟩; obtain ⟨A7, c7, rfl, hl7, _⟩ := Kd.R_reads ho0; obtain ⟨A8, c8, rfl, hl8, _⟩ := Kd.R_reads ho1; obtain ⟨A9, c9, rfl, hl9, _⟩ := Kd.R_reads ho2; have HX := Qa.mk (Bld.cut HW.out (Qj HB6.out hb) HB6.out.size ho0 ho1 ho2); have HF7 := Qa.mk (Qbt (ok := fun k => w4.heap.size ≤ k) (g := g) (Q := fun k => some k = (Value.slice A7 b1.length c7).ownBlock ∨ some k = (Value.slice A8 b2.length c8).ownBlock ∨ some k = (Value.slice A9 b3.length c9).ownBlock) (Nat.lt_of_lt_of_le (Zu HW.out.blk) HB6.out.size) ho0 (fun _ h => Or.inl h)); have HF8 := Qa.mk (Qbt (ok := fun k => w4.heap.size ≤ k) (g := g) (Q := fun k => some k = (Value.slice A7 b1.length c7).ownBlock ∨ some k = (Value.slice A8 b2.length c8).ownBlock ∨ some k = (Value.slice A9 b3.length c9).ownBlock) (Nat.lt_of_lt_of_le (Zu HW.out.blk) HB6.out.size) ho1 (fun _ h => Or.inr (Or.inl h))); have HF9 := Qa.mk (Qbt (ok := fun k => w4.heap.size ≤ k) (g := g) (Q := fun k => some k = (Value.slice A7 b1.length c7).ownBlock ∨ some k = (Value.slice A8 b2.length c8).ownBlock ∨ some k = (Value.slice A9 b3.length c9).ownBlock) (Nat.lt_of_lt_of_le (Zu HW.out.blk) HB6.out.size) ho2 (fun _ h => Or.inr (Or.inr h))); have HR7 := Qa.mk (HFR.out.trans (Fr.of_below (Qj HB6.out hb))); have HL7 := Qa.mk (And.intro hl7 (And.intro hl8 hl9)); clear ho0 ho1 ho2 hl7 hl8 hl9 hb; go_wp2_with fail; refine (Ue.all k g _ v lb style favour l t0 t1 t2 t3 t4 t5 t6 cls A7 c7 b1 A8 c8 b2 A9 c9 b3 w w7 HX.out HF7.out HL7.out.1 HF8.out HL7.out.2.1 HF9.out HL7.out.2.2 HCL.out HFV.out HLL.out s HS.out).mono ?_; rintro e w8 ⟨rfl, ⟨v', hW⟩, hfr⟩; have HW8 := Qa.mk (hW.widen (ok := fun k => w4.heap.size ≤ k) (fun k e => e.1) HW.out.nog); have HR8 := Qa.mk (HR7.out.trans (hfr.mono (fun k e => e.1))); clear hW hfr; go_wp2_with fail
   go_roundg k1
   case measure => omega
   case rel => exact ⟨v', _, i + 1, by rw [HWI.out], ⟨by have := HI.out; omega⟩, HW8, HR8, HGN⟩
  | zero =>
   have hil : ¬ i < l1.length := by have := HI.out; omega
   have lt1 : decide ((i : Int) < (l1.length : Int)) = false := decide_eq_false (by omega); have lt1n : decide (i < l1.length) = false := decide_eq_false hil; have hg := HG.out
   rw [List.drop_of_length_le (by omega)] at hg
   unfold Qhv at hg
   simp only [Option.some.injEq] at hg
   subst hg; obtain ⟨Av, cv, rfl, hlv, hCv⟩ := Kd.R_reads HW.out.own; have HCv := Qa.mk (And.intro hlv hCv); clear hlv hCv hil; have hg5 := (Qc HW.out.blk 5).trans (show _ = some (Value.slice Av _ cv) from rfl); go_wp2_with fail; refine (Yo.calls k Av cv _ _ wr HCv.out.2 HCv.out.1 HD.out).mono ?_; rintro e w9 ⟨v0, rfl, hR, hb⟩; have HRR := Qa.mk (Kd.R_lower hR (Qo HW.out.below)); have HBB := Qa.mk (Qj HW.out.below hb); clear hR hb; go_wp2_with fail
   go_ret2
   exact ⟨v0, rfl, HRR.out, HBB.out⟩
end Go.Proofs.Ytadafplbgophfaa.PA
end
