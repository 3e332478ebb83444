/- Part 6 of what the row of the law BuildFavours rests on: walks of functions, and plain lemmas (in part printed by the kit's print, what is not reached left out). -/
import Derived.Test.YtadafplbgophfaabuildFavours5
import Derived.Shelf.Strings.Builder1
import Derived.Shelf.Strings.Builder2
import Derived.Shelf.Strings.OnBuilder
import Derived.Shelf.Strings.BuilderF
import Derived.Shelf.Strings.BuilderK
import Derived.Shelf.Strings.Builder2Cap
import Derived.Shelf.Strings.Search1
import Derived.Shelf.Strings.Search2
import Derived.Shelf.Strings.Search3
import Derived.Shelf.LaysM
import Derived.Shelf.Strings.Shaped
import Derived.Shelf.Strings.Prefix
import Derived.Shelf.Bits.Mul64
import Derived.Shelf.Strings.BuilderCap
import Derived.Shelf.Slices.Equal
import Derived.Ground.Names2Prog
import Derived.Shelf.Slices.Clone
import Derived.Shelf.Slices.Empties2
import Derived.Ground.SlgnProg
import Derived.Shelf.SlicesE.Clone
import Derived.Test.YtadafplbgophfaaProg
section
namespace Go.Proofs
open Go.Shelf
def Try.lays156_ren : Go.Shelf.Ren := ⟨fun | 156 => 149 | 165 => 154 | 166 => 103 | 169 => 105 | 240 => 132 | 241 => 157 | 276 => 144 | 277 => 158 | n => n, fun | 31 => 27 | 9 => 9 | 3 => 3 | 4 => 4 | 0 => 0 | 20 => 20 | 72 => 162 | 76 => 165 | 70 => 159 | 37 => 160 | 75 => 164 | 127 => 203 | 164 => 215 | 5 => 5 | 80 => 168 | n => n, fun | n => n⟩
theorem Try.lays156 : Go.Proofs.Lays.n156 Try.prog Try.lays156_ren := {
  mixed := by kernel_rfl
  f156 := Try.func149.trans (congrArg some (by kernel_rfl))
  f165 := Try.func154.trans (congrArg some (by kernel_rfl))
  f166 := Try.func103.trans (congrArg some (by kernel_rfl))
  f169 := Try.func105.trans (congrArg some (by kernel_rfl))
  f240 := Try.func132.trans (congrArg some (by kernel_rfl))
  f241 := Try.func157.trans (congrArg some (by kernel_rfl))
  f276 := Try.func144.trans (congrArg some (by kernel_rfl))
  f277 := Try.func158.trans (congrArg some (by kernel_rfl))
  t0 := Try.underlying0
  a0 := Try.isAgg0
  z0 := Try.sizeOf0
  v0 := Try.zeroValue0
  t3 := Try.underlying3
  a3 := Try.isAgg3
  z3 := Try.sizeOf3
  v3 := Try.zeroValue3
  t4 := Try.underlying4
  a4 := Try.isAgg4
  z4 := Try.sizeOf4
  v4 := Try.zeroValue4
  t9 := Try.underlying9
  a9 := Try.isAgg9
  z9 := Try.sizeOf9
  v9 := Try.zeroValue9
  t20 := Try.underlying20
  a20 := Try.isAgg20
  z20 := Try.sizeOf20
  v20 := Try.zeroValue20
  t31 := Try.underlying27
  a31 := Try.isAgg27
  z31 := Try.sizeOf27
  v31 := Try.zeroValue27
  t37 := Try.underlying160
  a37 := Try.isAgg160
  z37 := Try.sizeOf160
  v37 := Try.zeroValue160
  t70 := Try.underlying159
  a70 := Try.isAgg159
  z70 := Try.sizeOf159
  v70 := Try.zeroValue159
  t72 := Try.underlying162
  a72 := Try.isAgg162
  z72 := Try.sizeOf162
  v72 := Try.zeroValue162
  t75 := Try.underlying164
  a75 := Try.isAgg164
  z75 := Try.sizeOf164
  v75 := Try.zeroValue164
  t76 := Try.underlying165
  a76 := Try.isAgg165
  z76 := Try.sizeOf165
  v76 := Try.zeroValue165
  t127 := Try.underlying203
  a127 := Try.isAgg203
  z127 := Try.sizeOf203
  v127 := Try.zeroValue203
  t164 := Try.underlying215
  a164 := Try.isAgg215
  z164 := Try.sizeOf215
  v164 := Try.zeroValue215 }
theorem Try.Builder_Extra_156 : Builder.Extra Try.prog Try.lays156_ren := {
  sizeBuilder := by kernel_rfl
  liesBuilder := by kernel_rfl
  t5 := Try.underlying5
  a5 := Try.isAgg5
  z5 := Try.sizeOf5
  v5 := Try.zeroValue5
  infoByte := by kernel_rfl
  cellsByte := by kernel_rfl
  sizeByte := by kernel_rfl
  neB5 := by decide }
open Go.RowKit in
theorem Try.strings_Join_none (a : Option Addr) (c : Nat) (sep : ByteArray) (w : World) :
    Calls Try.prog 149 #[.slice a 0 c, .string sep] w fun e w' => e = .returned (.string ⟨#[]⟩) ∧ w' = w := Any.strings_Join_none Try.lays156 Try.Builder_Extra_156 a c sep w
open Go.RowKit in
theorem Try.strings_Join (bk o c : Nat) (xs : List ByteArray) (sep : ByteArray) (w : World) (hcells : ∀ (j : Nat) x, xs[j]? = some x → w.cell? ⟨bk, o + j, none⟩ = some (.string x)) (hbk : bk < w.heap.size) (hN : xs.length ≤ 140737488355328) (hcap : xs.length ≤ c) (hlen : (Lib.join (xs.map (·.data.toList)) sep.data.toList).length ≤ 140737488355328) :
    Calls Try.prog 149 #[.slice (some ⟨bk, o, none⟩) xs.length c, .string sep] w fun e w' => e = .returned (.string ⟨(Lib.join (xs.map (·.data.toList)) sep.data.toList).toArray⟩) ∧ Below w.heap.size w w' := Any.strings_Join Try.lays156 Try.Builder_Extra_156 bk o c xs sep w hcells hbk hN hcap hlen
def Try.lays144_ren : Go.Shelf.Ren := ⟨fun | 144 => 135 | 143 => 145 | 219 => 148 | 217 => 150 | 225 => 151 | 224 => 152 | 267 => 153 | 266 => 155 | 314 => 156 | n => n, fun | 9 => 9 | 4 => 4 | 3 => 3 | 5 => 5 | 46 => 199 | 146 => 210 | 51 => 209 | n => n, fun | 1 => 0 | n => n⟩
theorem Try.lays144 : Go.Proofs.Lays.n144 Try.prog Try.lays144_ren := {
  mixed := by kernel_rfl
  f143 := Try.func145.trans (congrArg some (by kernel_rfl))
  f144 := Try.func135.trans (congrArg some (by kernel_rfl))
  f217 := Try.func150.trans (congrArg some (by kernel_rfl))
  f219 := Try.func148.trans (congrArg some (by kernel_rfl))
  f224 := Try.func152.trans (congrArg some (by kernel_rfl))
  f225 := Try.func151.trans (congrArg some (by kernel_rfl))
  f266 := Try.func155.trans (congrArg some (by kernel_rfl))
  f267 := Try.func153.trans (congrArg some (by kernel_rfl))
  f314 := Try.func156.trans (congrArg some (by kernel_rfl))
  t3 := Try.underlying3
  a3 := Try.isAgg3
  z3 := Try.sizeOf3
  v3 := Try.zeroValue3
  t4 := Try.underlying4
  a4 := Try.isAgg4
  z4 := Try.sizeOf4
  v4 := Try.zeroValue4
  t5 := Try.underlying5
  a5 := Try.isAgg5
  z5 := Try.sizeOf5
  v5 := Try.zeroValue5
  t9 := Try.underlying9
  a9 := Try.isAgg9
  z9 := Try.sizeOf9
  v9 := Try.zeroValue9
  t46 := Try.underlying199
  a46 := Try.isAgg199
  z46 := Try.sizeOf199
  v46 := Try.zeroValue199
  t51 := Try.underlying209
  a51 := Try.isAgg209
  z51 := Try.sizeOf209
  v51 := Try.zeroValue209
  t146 := Try.underlying210
  a146 := Try.isAgg210
  z146 := Try.sizeOf210
  v146 := Try.zeroValue210
  g1 := by kernel_rfl }
open Go.RowKit Go.Lib in
theorem Try.strings_Contains_one (s : ByteArray) (c : UInt8) (w : World) :
    Calls Try.prog 135 #[.string s, .string ⟨#[c]⟩] w fun e w' => e = .returned (.bool (decide (0 ≤ Lib.indexByte s.data.toList c))) ∧ w' = w := Any.strings_Contains_one Try.lays144 s c w
open Go.RowKit Go.Lib in
theorem Try.strings_Contains (s sub : ByteArray) (m : Int) (w : World) (hs : s.size < 4294967281) (hm : w.cell? ⟨0, 0, none⟩ = some (.int .i64 m)) :
    Calls Try.prog 135 #[.string s, .string sub] w fun e w' => e = .returned (.bool (Lib.contains s.data.toList sub.data.toList)) ∧ w' = w := Any.strings_Contains Try.lays144 s sub m w hs hm
end Go.Proofs
end
section
namespace Go.Proofs.Ytadafplbgophfaa.PA
set_option linter.unusedSimpArgs false
set_option linter.unusedVariables false
open Go.RowKit Go.Proofs.YtadafplbgophfaaW.PrintWords Go.Proofs.YtadafplbgophfaaW.PrintLast Go.Proofs.YtadafplbgophfaaW.PrintMore
def J15_.f (_k : Nat) (a0 a1 : ByteArray) : Option Bool := if a1 = ⟨#[10]⟩ then some (decide (0 ≤ Lib.indexByte a0.data.toList 10)) else none
theorem J15_.calls (k : Nat) (a0 a1 : ByteArray) (r : Bool) (w : World) (h : J15_.f k a0 a1 = some r) :
    Calls Try.prog 135 #[.string a0, .string a1] w fun e w' => e = .returned (.bool r) ∧ Below w.heap.size w w' := by
  unfold J15_.f at h
  split at h
  case isFalse => cases h
  rename_i hG
  subst hG
  simp only [Option.some.injEq] at h
  subst h
  refine (Try.strings_Contains_one a0 10 w).mono ?_
  rintro e w' ⟨rfl, rfl⟩
  exact ⟨rfl, Below.refl _ _⟩
def joined (l : List ByteArray) (sep : ByteArray) : List UInt8 := Lib.join (l.map (·.data.toList)) sep.data.toList
def J16_.f (_k : Nat) (l0 : List ByteArray) (a1 : ByteArray) : Option ByteArray := if l0.length ≤ 140737488355328 ∧ (joined l0 a1).length ≤ 140737488355328 then some ⟨(joined l0 a1).toArray⟩ else none
theorem J16_.mono : ∀ a0 a1 k, LeO (J16_.f k a0 a1) (J16_.f (k + 1) a0 a1) := fun _ _ _ => LeO.refl _
theorem J16_.calls (k : Nat) (A0 : Option Addr) (c0 : Nat) (l0 : List ByteArray) (a1 : ByteArray) (r : ByteArray) (w : World) (hr0 : Kd.C Kd.string w A0 l0.length l0) (hc0 : l0.length ≤ c0) (h : J16_.f k l0 a1 = some r) :
    Calls Try.prog 149 #[.slice A0 l0.length c0, .string a1] w fun e w' => e = .returned (.string r) ∧ Below w.heap.size w w' := by
  unfold J16_.f at h
  split at h
  case isFalse => cases h
  rename_i hG
  obtain ⟨hN, hJ⟩ := hG
  simp only [Option.some.injEq] at h
  subst h
  by_cases hl : l0 = []
  · subst hl
    refine (Try.strings_Join_none A0 c0 a1 w).mono ?_
    rintro e w' ⟨rfl, rfl⟩
    exact ⟨rfl, Below.refl _ _⟩
  · have hpos : 0 < l0.length := List.length_pos_iff.2 hl
    obtain ⟨ad, rfl, hc⟩ := Kd.at_string hr0 0 (Int.le_refl _) (by omega)
    have hs : ad.spot = none := by
      cases hsp : ad.spot with
      | none => rfl
      | some v =>
        unfold World.cell? at hc
        split at hc
        · rw [if_pos (by simp [Addr.add, hsp])] at hc; cases hc
        · cases hc
    obtain ⟨bk, o, sp⟩ := ad
    simp only at hs
    subst hs
    refine (Try.strings_Join bk o c0 l0 a1 w (fun j x hj => ?_) (World.block_lt_of_cell? w _ hc) hN hc0 hJ).mono ?_
    · have hjl : j < l0.length := (List.getElem?_eq_some_iff.1 hj).1
      obtain ⟨ad, he, hcj⟩ := Kd.at_string hr0 (j : Int) (by omega) (by omega)
      cases he
      have e : rdOf ByteArray.empty l0 (j : Int) = x := by simp [rdOf, List.getD_eq_getElem?_getD, hj]
      rw [e] at hcj
      by_cases hj0 : j = 0
      · subst hj0
        simpa [Addr.add] using hcj
      · simpa [Addr.add, hj0] using hcj
    · rintro e w' ⟨rfl, hb⟩
      exact ⟨rfl, hb⟩
end Go.Proofs.Ytadafplbgophfaa.PA
end
section
namespace Go.Proofs.Ytadafplbgophfaa.PA
open Go.RowKit Go.Proofs.YtadafplbgophfaaW.PrintWords Go.Proofs.YtadafplbgophfaaW.PrintLast Go.Proofs.YtadafplbgophfaaW.PrintMore
attribute [local go_sem] max2_int min2_int max_two min_two max_three min_three max_four min_four   -- for this text's walks alone
set_option linter.unusedVariables false
set_option linter.unusedSimpArgs false
def J12_.f (k : Nat) (l0 : List ByteArray) : Option (ByteArray) := (J16_.f k l0 (⟨#[]⟩ : ByteArray)).bind fun t101 => (some t101)
theorem J12_.mono : ∀ a0 k, LeO (J12_.f k a0) (J12_.f (k + 1) a0) := by
 intro a0 k
 unfold J12_.f
 repeat' first
   | (with_reducible exact J16_.mono _ _ _)
   | (with_reducible exact LeO.refl _)
   | (with_reducible exact LeO.none _)
   | (with_reducible refine LeO.ite ?_ ?_)
   | (with_reducible refine LeO.bind ?_ (fun _ => ?_))
   | exact J16_.mono _ _ _
   | exact LeO.none _
   | refine LeO.ite ?_ ?_
   | refine LeO.bind ?_ (fun _ => ?_)
set_option maxHeartbeats 8000000 in
set_option maxRecDepth 100000 in
theorem J12_.calls (k : Nat) (A0 : Option Addr) (c0 : Nat) (l0 : List ByteArray) (r : ByteArray) (w : World) (hr0 : Kd.C Kd.string w A0 l0.length l0) (hc0 : l0.length ≤ c0) (h : J12_.f k l0 = some r) :
  Calls Try.prog 146 #[.slice A0 l0.length c0] w fun e w' => e = .returned (.string r) ∧ Below w.heap.size w w' := by
 have HR0 := Ja38_.mk hr0
 have HC0 := Ja38_.mk hc0
 clear hr0 hc0
 have HB := Ja38_.mk (Below.refl w.heap.size w)
 have H : ((J16_.f k l0 (⟨#[]⟩ : ByteArray)).bind fun t101 => (some t101)) = some r := h
 clear h
 replace H := Option.bind_eq_some_iff.mp H
 obtain ⟨t101, A20, H⟩ := H
 replace H : (some t101) = some r := H
 have A2 := Ja38_.mk A20
 clear A20
 obtain rfl := Option.some.inj H
 go_enter Try.func146, Try.ntmps146
 go_wp2_with (first | ((with_reducible refine gate_callee (f := 149) rfl ?_); refine goesL_ (some 4) rfl rfl Try.func149 (by kernel_rfl) rfl #[.slice A0 l0.length c0, .string (⟨#[]⟩ : ByteArray)] rfl (by (try simp only [List.map_toArray, List.map_cons, List.map_nil]); first | done | rfl | (simp only [List.length_drop, List.length_take]; rfl)) ?_; (with_reducible refine (J16_.calls k _ _ l0 (⟨#[]⟩ : ByteArray) t101 _ ?side1 ?side2 A2.out).mono ?_); (case side1 => repeat (first | exact HR0.out | (with_reducible refine Kd.C_alloc ?_ _) | (with_reducible refine Kd.C_drewN ?_ _) | (with_reducible refine Kd.C_drew ?_))); (case side2 => exact HC0.out); rintro e w3 ⟨rfl, hb⟩; refine ⟨_, rfl, ?_⟩; have n0_ := Ja38_.mk (Ja44_ (by repeat (first | (with_reducible first | exact HB.out | apply Ja43_ | apply Ja41_ | apply Ja42_) | exact HB.out)) hb); clear HB; have HB := n0_; clear n0_; (try clear hb); (try clear hb2); (try clear hk); (try clear hi)))
 go_ret
 exact ⟨by first | rfl | (simp [errW_none, errW_some] <;> rfl) | (simp [*, errW_none, errW_some] <;> rfl), by repeat (first | (with_reducible first | exact HB.out | apply Ja43_ | apply Ja41_ | apply Ja42_) | exact HB.out)⟩
end Go.Proofs.Ytadafplbgophfaa.PA
end
section
namespace Go.Proofs.Ytadafplbgophfaa.PA
set_option linter.unusedSimpArgs false
set_option linter.unusedVariables false
open Go.RowKit Go.Proofs.YtadafplbgophfaaW.PrintWords Go.Proofs.YtadafplbgophfaaW.PrintLast Go.Proofs.YtadafplbgophfaaW.PrintMore
structure Bld (w0 w : World) (g : Nat) (ok : Nat → Prop) (v : Value) (lb : S116) (style favour : Int) (l : List S120) : Prop where
 below : Below w0.heap.size w0 w
 ge : w0.heap.size ≤ g
 blk : w.heap[g]? = some (.cells #[.string lb.f0, .string lb.f1, .string lb.f2, .int .i64 style, .int .i64 favour, v] 181 (0, 0))
 own : Kd.R k120 120 w w0.heap.size ok v l
 nog : ¬ ok g
 fresh : ∀ k, w.heap.size ≤ k → ok k
theorem Bld.on {w0 w w1 : World} {g : Nat} {ok : Nat → Prop} {v : Value} {lb : S116} {st fa : Int} {l : List S120} (h : Bld w0 w g ok v lb st fa l) (hb : Below w.heap.size w w1) : Bld w0 w1 g ok v lb st fa l := ⟨Ja44_ h.below hb, h.ge, (hb.block g (blk_lt h.blk)).trans h.blk, Kd.R_below h.own hb, h.nog, fun k hk => h.fresh k (Nat.le_trans hb.size hk)⟩
theorem Bld.drew {w0 w : World} {g : Nat} {ok : Nat → Prop} {v : Value} {lb : S116} {st fa : Int} {l : List S120} (h : Bld w0 w g ok v lb st fa l) : Bld w0 w.drew g ok v lb st fa l := ⟨below_drew h.below, h.ge, h.blk, Kd.R_drew h.own, h.nog, h.fresh⟩
theorem size_set136 (w : World) (p : Addr) (u : Value) : (w.setCell p u).heap.size = w.heap.size := by simp [World.setCell]
def Fr (ok : Nat → Prop) (g : Nat) (w w' : World) : Prop := w.heap.size ≤ w'.heap.size ∧ ∀ k, k < w.heap.size → ¬ ok k → k ≠ g → w'.heap[k]? = w.heap[k]?
theorem Fr.trans {ok : Nat → Prop} {g : Nat} {w w1 w2 : World} (h : Fr ok g w w1) (h' : Fr ok g w1 w2) : Fr ok g w w2 := ⟨Nat.le_trans h.1 h'.1, fun k hk hn hg => (h'.2 k (Nat.lt_of_lt_of_le hk h.1) hn hg).trans (h.2 k hk hn hg)⟩
theorem Fr.of_below {ok : Nat → Prop} {g : Nat} {w w1 : World} (h : Below w.heap.size w w1) : Fr ok g w w1 := ⟨h.size, fun k hk _ _ => h.block k hk⟩
theorem Fr.mono {ok ok' : Nat → Prop} {g : Nat} {w w1 : World} (h : Fr ok' g w w1) (ho : ∀ k, ok' k → ok k) : Fr ok g w w1 := ⟨h.1, fun k hk hn hg => h.2 k hk (fun e => hn (ho k e)) hg⟩
theorem Fr.set {ok : Nat → Prop} {g : Nat} {w w1 : World} (h : Fr ok g w w1) {p : Addr} (u : Value) (hp : w.heap.size ≤ p.block) : Fr ok g w (w1.setCell p u) := ⟨by rw [size_set136]; exact h.1, fun k hk hn hg => (Below.heap_setCell w1 p u k (by omega)).trans (h.2 k hk hn hg)⟩
theorem Bld.shrink {w0 w w' : World} {g : Nat} {ok : Nat → Prop} {v : Value} {lb : S116} {st fa : Int} {l : List S120} (h : Bld w0 w g ok v lb st fa l) (hb : Below w.heap.size w w') (a : Nat) (ha : w.heap.size ≤ a) (hlt : a < w'.heap.size) : Bld w0 w' g (fun k => ok k ∧ k ≠ a) v lb st fa l :=
 ⟨Ja44_ h.below hb, h.ge, (hb.block g (blk_lt h.blk)).trans h.blk, Kd.R_below (Kd.R_elderB h.own a ha) hb, fun e => h.nog e.1, fun k hk => ⟨h.fresh k (Nat.le_trans hb.size hk), by omega⟩⟩
theorem Bld.far {w0 w : World} {g : Nat} {ok : Nat → Prop} {v : Value} {lb : S116} {st fa : Int} {l : List S120} (h : Bld w0 w g ok v lb st fa l) {p : Addr} (u : Value) (hp : ¬ ok p.block) (hg : g ≠ p.block) (hge : w0.heap.size ≤ p.block) : Bld w0 (w.setCell p u) g ok v lb st fa l :=
 ⟨h.below.setCell hge _, h.ge, blk_far h.blk hg u, Kd.R_far h.own (fun k hk e => hp (e ▸ hk)) u, h.nog, fun k hk => h.fresh k (by rw [size_set136] at hk; exact hk)⟩
theorem Bld.widen {w0 w : World} {g : Nat} {ok ok' : Nat → Prop} {v : Value} {lb : S116} {st fa : Int} {l : List S120} (h : Bld w0 w g ok' v lb st fa l) (ho : ∀ k, ok' k → ok k) (hg : ¬ ok g) : Bld w0 w g ok v lb st fa l :=
 ⟨h.below, h.ge, h.blk, Kd.R_mono h.own ho, hg, fun k hk => ho k (h.fresh k hk)⟩
def textPart (r : ByteArray) : S120 := ⟨z116, false, r, ⟨#[]⟩, ⟨#[]⟩, ⟨#[]⟩, false⟩
def J6_.T0 : Bool × List (List Nat × List Nat) := (true, [([], []), ([], []), ([1], [1]), ([2], [2]), ([3], [3]), ([], []), ([5], [5]), ([6], [6]), ([7], [7]), ([4, 8, 6], [4, 8]), ([0, 0, 1, 2, 3, 4, 5, 6, 7, 8, 9], [0]), ([10, 0, 1, 2, 3, 4, 5, 6, 7, 8, 9], [10]), ([11, 9, 9, 0, 1, 2, 3, 4, 5, 6, 7, 8, 9], [9, 11])])
def J6_.B0 : List Nat := [0, 0, 2, 6, 14, 0, 32, 96, 224, 510, 1023, 2047, 4095]
theorem J6_.tab0 : rtab .any (opsOf Try.f136 0) = J6_.T0 := by kernel_rfl
theorem J6_.bits0 : waitsOk J6_.T0.2 J6_.B0 = true := by kernel_rfl
set_option maxHeartbeats 8000000 in
set_option maxRecDepth 100000 in
theorem J6_.calls (k : Nat) (g : Nat) (ok : Nat → Prop) (v : Value) (lb : S116) (style favour : Int) (l : List S120) (A : Option Addr) (c : Nat) (t : List ByteArray) (r : ByteArray) (w0 w : World) (hF : Bld w0 w g ok v lb style favour l)
  (hr : Kd.C Kd.string w A t.length t) (hc : t.length ≤ c) (hl : l.length ≤ 1000000000) (h : J12_.f k t = some r) :
  Calls Try.prog 136 #[.pointer (some ⟨g, 0, none⟩), .slice A t.length c] w fun e w' => e = .returned (.tuple #[]) ∧ (∃ v', Bld w0 w' g ok v' lb style favour (l ++ [textPart r])) ∧ Fr ok g w w' := by
 obtain ⟨A7, n7, c7, rfl⟩ : ∃ A n c, v = Value.slice A n c := by obtain ⟨A, c, h⟩ := Kd.R_slice hF.own; exact ⟨A, _, c, h⟩
 have HF := Ja38_.mk hF
 have HR := Ja38_.mk hr
 have HC := Ja38_.mk hc
 have HL := Ja38_.mk hl
 have HJ := Ja38_.mk h
 have hc5 := (Ja39_ hF.blk 5).trans (show _ = some (Value.slice A7 n7 c7) from rfl)
 have hu181 := Try.underlying181
 have hu120 := Try.underlying120
 clear hF hr hc hl h
 go_enter Try.func136, Try.ntmps136
 refine start_ (n := 13) (S := fun w' => w'.cell? ⟨g, 5, none⟩ = some (.slice A7 n7 c7)) (ds := [12]) (bz_ 13 0) (by kernel_rfl) rfl rfl hc5 (fun hHeld => ?_); refine with_tabW J6_.tab0 J6_.bits0 (fun HT_ HW_ => ?_)
 have HC2 := Ja38_.mk (Kd.C_drew HR.out)
 have HF2 := Ja38_.mk HF.out.drew
 generalize hwd : w.drew = wd at HC2 HF2 hHeld ⊢
 have HWD := Ja38_.mk hwd
 clear hwd hc5
 refine pure_ (i := 0) (N := some 4) (v := ?_) (a' := ?_) (bz_ 13 1) rfl rfl (any_of HT_.out (by kernel_rfl)) (fun _ _ _ h => h) (Or.inl ⟨by rfl, ?_⟩) ?_ ?_
 rotate_left
 ·intro w'
  go_simp
  with_reducible rfl
 rotate_left
 ·simp only [Act.put, sA_, sB_, sC_, i64_w, i32_w]
  rfl
 refine pure_ (i := 1) (N := some 5) (v := ?_) (a' := ?_) (bz_ 13 3) rfl rfl (any_of HT_.out (by kernel_rfl)) (fun _ _ _ h => h) (Or.inl ⟨by rfl, ?_⟩) ?_ ?_
 rotate_left
 ·intro w'
  go_simp
  with_reducible rfl
 rotate_left
 ·simp only [Act.put, sA_, sB_, sC_, i64_w, i32_w]
  rfl
 refine pure_ (i := 2) (N := some 6) (v := ?_) (a' := ?_) (bz_ 13 7) rfl rfl (any_of HT_.out (by kernel_rfl)) (fun _ _ _ h => h) (Or.inl ⟨by rfl, ?_⟩) ?_ ?_
 rotate_left
 ·intro w'
  go_simp
  with_reducible rfl
 rotate_left
 ·simp only [Act.put, sA_, sB_, sC_, i64_w, i32_w]
  rfl
 refine pure_ (i := 3) (N := some 7) (v := ?_) (a' := ?_) (bz_ 13 15) rfl rfl (any_of HT_.out (by kernel_rfl)) (fun _ _ _ h => h) (Or.inl ⟨by rfl, ?_⟩) ?_ ?_
 rotate_left
 ·intro w'
  go_simp
  with_reducible rfl
 rotate_left
 ·simp only [Act.put, sA_, sB_, sC_, i64_w, i32_w]
  rfl
 refine take_ (i := 4) (N := some 8) (v := ?_) (a' := ?_) (bz_ 13 31) rfl rfl (Ja52_ HT_.out HW_.out (by kernel_rfl)) (fun _ _ _ h => h) (Or.inl ⟨by rfl, ?_⟩) hHeld ?_ ?_
 rotate_left
 ·rintro w' s0
  go_simp
  with_reducible rfl
 rotate_left
 ·simp only [Act.put, sA_, sB_, sC_, i64_w, i32_w]
  rfl
 refine pure_ (i := 5) (N := some 9) (v := ?_) (a' := ?_) (bz_ 13 63) rfl rfl (any_of HT_.out (by kernel_rfl)) (fun _ _ _ h => h) (Or.inl ⟨by rfl, ?_⟩) ?_ ?_
 rotate_left
 ·intro w'
  go_simp
  with_reducible rfl
 rotate_left
 ·simp only [Act.put, sA_, sB_, sC_, i64_w, i32_w]
  rfl
 refine one_ (i := 6) (N := some 10) (bz_ 13 127) rfl rfl (one_of HT_.out (by kernel_rfl)) (by decide) (fun K hK => ?_)
 refine goes_ Try.func146 (by kernel_rfl) rfl #[.slice A t.length c] (by rfl) rfl rfl (by (try simp only [List.map_toArray, List.map_cons, List.map_nil]); first | done | rfl) ?_
 refine (J12_.calls k A c t r wd HC2.out HC.out HJ.out).mono ?_
 rintro e w2 ⟨rfl, hb⟩
 refine ⟨_, rfl, ?_⟩
 have HB3 := Ja38_.mk hb
 have HF3 := Ja38_.mk (HF2.out.on hb)
 clear hb
 refine hK.out _ _ ((Ja39_ HF3.out.blk 5).trans (show _ = some _ from rfl)) (fun hHeld => ?_)
 clear hK K
 refine norm_ (a' := ?_) ?_ ?_
 rotate_left
 ·show Act.put _ (some 10) _ = _
  simp only [Act.put, sA_, sB_, sC_, i64_w, i32_w]
  rfl
 refine pure_ (i := 7) (N := some 11) (v := ?_) (a' := ?_) (bz_ 13 255) rfl rfl (any_of HT_.out (by kernel_rfl)) (fun _ _ _ h => h) (Or.inl ⟨by rfl, ?_⟩) ?_ ?_
 rotate_left
 ·intro w'
  go_simp
  with_reducible rfl
 rotate_left
 ·simp only [Act.put, sA_, sB_, sC_, i64_w, i32_w]
  rfl
 refine one_ (i := 8) (N := some 12) (bz_ 13 511) rfl rfl (one_of HT_.out (by kernel_rfl)) (by decide) (fun K hK => ?_)
 refine value_ (w1 := ?_) (v := ?_) (by rfl) rfl ?_ ?_
 rotate_left 2
 ·go_simp
  constructor
  ·rfl
  ·rfl
 refine hK.out _ _ ((Ja39_ (Ja48_ HF3.out.blk _) 5).trans (show _ = some _ from rfl)) (fun hHeld => ?_)
 clear hK K
 refine norm_ (a' := ?_) ?_ ?_
 rotate_left
 ·show Act.put _ (some 12) _ = _
  simp only [Act.put, sA_, sB_, sC_, i64_w, i32_w]
  rfl
 refine one_ (i := 9) (N := some 13) (bz_ 13 1023) rfl rfl (one_of HT_.out (by kernel_rfl)) (by decide) (fun K hK => ?_)
 refine Kd.R_append_step k120 (w0 := w0) w0.heap.size (by rfl) (.tmp 8) (.tmp 12) 88 120 (.agg #[(.string ⟨#[]⟩), (.string ⟨#[]⟩), (.string ⟨#[]⟩), (.bool false), (.string ⟨#[]⟩), (.string ⟨#[]⟩), (.string ⟨#[]⟩), (.string ⟨#[]⟩), (.bool false)]) 128 rfl Try.underlying88 info120 rfl (by decide) (by decide) (.slice A7 n7 c7) l (textPart r) [.string ⟨#[]⟩, .string ⟨#[]⟩, .string ⟨#[]⟩, .bool false, .string r, .string ⟨#[]⟩, .string ⟨#[]⟩, .string ⟨#[]⟩, .bool false] ok (fun _ => False) rfl rfl (k120_mkM _ _ _ (textPart r)) (fun _ hk => hk.elim) ?aF HF3.out.own HF3.out.below HF3.out.below.size ?aL ?_
 (case aF => exact fun k hk => HF3.out.fresh k hk)
 (case aL => have := HL.out; omega)
 intro v4 w4 ho hb hg hat
 have HO4 := Ja38_.mk ho
 have HB4 := Ja38_.mk hb
 have HG4 := Ja38_.mk hg
 have HK4 := Ja38_.mk (blk_grown HF3.out.blk hg (Kd.R_away HF3.out.own (fun _ hk e => HF3.out.nog (e ▸ hk))))
 clear ho hb hg hat
 obtain ⟨A4, n4, c4, rfl⟩ : ∃ A n c, v4 = Value.slice A n c := (by obtain ⟨A, c, h⟩ := Kd.R_slice HO4.out; exact ⟨A, _, c, h⟩)
 have hh3 := (Ja39_ HK4.out 5).trans (show _ = some (Value.slice A7 n7 c7) from rfl)
 have hh4 := Ja40_ HK4.out 5
 refine hK.out _ _ hh3 (fun hHeld => ?_)
 clear hK K
 refine norm_ (a' := ?_) ?_ ?_
 rotate_left
 ·show Act.put _ (some 13) _ = _
  simp only [Act.put, sA_, sB_, sC_, i64_w, i32_w]
  rfl
 refine pure_ (i := 10) (N := some 14) (v := ?_) (a' := ?_) (bz_ 13 2047) rfl rfl (any_of HT_.out (by kernel_rfl)) (fun _ _ _ h => h) (Or.inl ⟨by rfl, ?_⟩) ?_ ?_
 rotate_left
 ·intro w'
  go_simp
  with_reducible rfl
 rotate_left
 ·simp only [Act.put, sA_, sB_, sC_, i64_w, i32_w]
  rfl
 refine pure_ (i := 11) (N := some 15) (v := ?_) (a' := ?_) (bz_ 13 4095) rfl rfl (any_of HT_.out (by kernel_rfl)) (fun _ _ _ h => h) (Or.inl ⟨by rfl, ?_⟩) ?_ ?_
 rotate_left
 ·intro w'
  go_simp
  with_reducible rfl
 rotate_left
 ·simp only [Act.put, sA_, sB_, sC_, i64_w, i32_w]
  rfl
 refine last_ (i := 12) (N := none) (bz_ 13 8191) rfl rfl (one_of HT_.out (by kernel_rfl)) (by decide) (fun K hK => ?_)
 refine skip_ (w1 := ?_) (by rfl) rfl ?_ ?_
 rotate_left
 ·go_simp
  rfl
 refine hK.out _ _ ?_
 clear hK K
 refine done_ (done_of HT_.out (by kernel_rfl)) ?_
 try go_wp2
 go_end0
 have hsz : w.heap.size = wd.heap.size := by rw [← HWD.out]; rfl
 refine ⟨rfl, ⟨.slice A4 n4 c4, ⟨HB4.out.setCell HF3.out.ge _, HF3.out.ge, blk_put HK4.out 5 _ rfl, Kd.R_far HO4.out (p := ⟨g, 5, none⟩) (fun k hk e => HF3.out.nog (by have e2 : k = g := e; rw [← e2]; exact hk)) _, HF3.out.nog, fun k hk => HF3.out.fresh k (by rw [size_set136] at hk; exact Nat.le_trans HG4.out.size hk)⟩⟩, ⟨by rw [size_set136, hsz]; exact Nat.le_trans HB3.out.size HG4.out.size, fun k hk hnk hkg => ?_⟩⟩
 rw [Below.heap_setCell w4 ⟨g, 5, none⟩ _ k hkg, HG4.out.block k (Nat.lt_of_lt_of_le (by rw [← hsz]; exact hk) HB3.out.size) (Kd.R_away HF3.out.own (fun j hj e => hnk (e ▸ hj))), HB3.out.block k (by rw [← hsz]; exact hk), ← HWD.out]
 rfl
end Go.Proofs.Ytadafplbgophfaa.PA
end
section
namespace Go.Proofs.Ytadafplbgophfaa.PA
set_option linter.unusedSimpArgs false
set_option linter.unusedVariables false
open Go.RowKit Go.Proofs.YtadafplbgophfaaW.PrintWords Go.Proofs.YtadafplbgophfaaW.PrintLast Go.Proofs.YtadafplbgophfaaW.PrintMore
def chosen (cls favour : Int) (b1 b2 b3 : List ByteArray) : List ByteArray := if cls = 0 then b1 else if cls = 1 ∨ cls = 3 ∨ (cls = 4 ∧ favour = 1) then b2 else b3
set_option maxHeartbeats 8000000 in
set_option maxRecDepth 100000 in
theorem J5_.favoured (k : Nat) (g : Nat) (ok : Nat → Prop) (v : Value) (lb : S116) (style favour : Int) (l : List S120) (st : Bool) (i0 i1 i2 i3 i4 i5 : Int) (cls : Int)
    (A1 : Option Addr) (c1 : Nat) (b1 : List ByteArray) (A2 : Option Addr) (c2 : Nat) (b2 : List ByteArray) (A3 : Option Addr) (c3 : Nat) (b3 : List ByteArray) (w0 w : World) (hF : Bld w0 w g ok v lb style favour l)
    (hr1 : Kd.F Kd.string w (fun k => ¬ ok k ∧ k ≠ g) A1 b1.length b1) (hc1 : b1.length ≤ c1) (hr2 : Kd.F Kd.string w (fun k => ¬ ok k ∧ k ≠ g) A2 b2.length b2) (hc2 : b2.length ≤ c2) (hr3 : Kd.F Kd.string w (fun k => ¬ ok k ∧ k ≠ g) A3 b3.length b3) (hc3 : b3.length ≤ c3)
    (h4 : cls = 0 ∨ cls = 1 ∨ cls = 2 ∨ cls = 3 ∨ cls = 4) (h0 : favour = 1 ∨ favour = 3) (hl : l.length ≤ 1000000000) (s : ByteArray) (hj : J12_.f k (chosen cls favour b1 b2 b3) = some s) :
    Calls Try.prog 119 #[.pointer (some ⟨g, 0, none⟩), .agg #[.bool st, .int .i64 i0, .int .i64 i1, .int .i64 i2, .int .i64 i3, .int .i64 i4, .int .i64 i5, .slice A1 b1.length c1, .slice A2 b2.length c2, .slice A3 b3.length c3, .int .i64 cls]] w fun e w' => e = .returned (.tuple #[]) ∧ (∃ v', Bld w0 w' g ok v' lb style favour (l ++ [textPart s])) ∧ Fr ok g w w' := by
  have HF := Ja38_.mk hF
  have H1 := Ja38_.mk (fun W' (h : Fr ok g w W') => hr1 W' (fun k hk hlt => h.2 k hlt hk.1 hk.2))
  have H2 := Ja38_.mk (fun W' (h : Fr ok g w W') => hr2 W' (fun k hk hlt => h.2 k hlt hk.1 hk.2))
  have H3 := Ja38_.mk (fun W' (h : Fr ok g w W') => hr3 W' (fun k hk hlt => h.2 k hlt hk.1 hk.2))
  have HL := Ja38_.mk hl
  have HC := Ja38_.mk (And.intro hc1 (And.intro hc2 hc3))
  clear hF hr1 hr2 hr3 hl hc1 hc2 hc3
  have hu181 := Try.underlying181
  have hu184 := Try.underlying184
  rcases h4 with rfl | rfl | rfl | rfl | rfl
  · have HJ : Ja38_ (J12_.f k b1 = some s) := ⟨hj⟩
    clear hj
    rcases h0 with rfl | rfl
    · go_enter Try.func119, Try.ntmps119
      go_wp2_with (first | ((with_reducible refine gate_dst (N := 3) rfl ?_); refine box_event ?hg (N := 3) ?hd (cs := #[.bool st, .int .i64 i0, .int .i64 i1, .int .i64 i2, .int .i64 i3, .int .i64 i4, .int .i64 i5, .slice A1 b1.length c1, .slice A2 b2.length c2, .slice A3 b3.length c3, .int .i64 0]) (t := 184) ?hr ?_; (case hd => rfl); (case hg => rfl); (case hr => first | (go_simp; done) | (go_simp; rfl)); intro g0 hg w1 hbox hb; have HF1 := Ja38_.mk (HF.out.on hb); have hfa := (Ja39_ HF1.out.blk 4).trans (show _ = some (Value.int .i64 1) from rfl); have q7 := (Ja39_ hbox 7).trans (show _ = some (Value.slice A1 b1.length c1) from rfl); have q8 := (Ja39_ hbox 8).trans (show _ = some (Value.slice A2 b2.length c2) from rfl); have q9 := (Ja39_ hbox 9).trans (show _ = some (Value.slice A3 b3.length c3) from rfl); have q10 := (Ja39_ hbox 10).trans (show _ = some (Value.int .i64 0) from rfl); have HB1 := Ja38_.mk hb; clear hbox hb hg))
      refine (J6_.calls k g ok v lb style 1 l A1 c1 b1 s w0 w1 HF1.out (H1.out _ (Fr.of_below HB1.out)) HC.out.1 HL.out HJ.out).mono ?_
      rintro e w2 ⟨rfl, hE, hfr⟩
      have HE := Ja38_.mk hE
      have HR := Ja38_.mk hfr
      clear hE hfr
      try go_wp2
      go_end0
      exact ⟨rfl, HE.out, (Fr.of_below HB1.out).trans HR.out⟩
    · go_enter Try.func119, Try.ntmps119
      go_wp2_with (first | ((with_reducible refine gate_dst (N := 3) rfl ?_); refine box_event ?hg (N := 3) ?hd (cs := #[.bool st, .int .i64 i0, .int .i64 i1, .int .i64 i2, .int .i64 i3, .int .i64 i4, .int .i64 i5, .slice A1 b1.length c1, .slice A2 b2.length c2, .slice A3 b3.length c3, .int .i64 0]) (t := 184) ?hr ?_; (case hd => rfl); (case hg => rfl); (case hr => first | (go_simp; done) | (go_simp; rfl)); intro g0 hg w1 hbox hb; have HF1 := Ja38_.mk (HF.out.on hb); have hfa := (Ja39_ HF1.out.blk 4).trans (show _ = some (Value.int .i64 3) from rfl); have q7 := (Ja39_ hbox 7).trans (show _ = some (Value.slice A1 b1.length c1) from rfl); have q8 := (Ja39_ hbox 8).trans (show _ = some (Value.slice A2 b2.length c2) from rfl); have q9 := (Ja39_ hbox 9).trans (show _ = some (Value.slice A3 b3.length c3) from rfl); have q10 := (Ja39_ hbox 10).trans (show _ = some (Value.int .i64 0) from rfl); have HB1 := Ja38_.mk hb; clear hbox hb hg))
      refine (J6_.calls k g ok v lb style 3 l A1 c1 b1 s w0 w1 HF1.out (H1.out _ (Fr.of_below HB1.out)) HC.out.1 HL.out HJ.out).mono ?_
      rintro e w2 ⟨rfl, hE, hfr⟩
      have HE := Ja38_.mk hE
      have HR := Ja38_.mk hfr
      clear hE hfr
      try go_wp2
      go_end0
      exact ⟨rfl, HE.out, (Fr.of_below HB1.out).trans HR.out⟩
  · have HJ : Ja38_ (J12_.f k b2 = some s) := ⟨hj⟩
    clear hj
    rcases h0 with rfl | rfl
    · go_enter Try.func119, Try.ntmps119
      go_wp2_with (first | ((with_reducible refine gate_dst (N := 3) rfl ?_); refine box_event ?hg (N := 3) ?hd (cs := #[.bool st, .int .i64 i0, .int .i64 i1, .int .i64 i2, .int .i64 i3, .int .i64 i4, .int .i64 i5, .slice A1 b1.length c1, .slice A2 b2.length c2, .slice A3 b3.length c3, .int .i64 1]) (t := 184) ?hr ?_; (case hd => rfl); (case hg => rfl); (case hr => first | (go_simp; done) | (go_simp; rfl)); intro g0 hg w1 hbox hb; have HF1 := Ja38_.mk (HF.out.on hb); have hfa := (Ja39_ HF1.out.blk 4).trans (show _ = some (Value.int .i64 1) from rfl); have q7 := (Ja39_ hbox 7).trans (show _ = some (Value.slice A1 b1.length c1) from rfl); have q8 := (Ja39_ hbox 8).trans (show _ = some (Value.slice A2 b2.length c2) from rfl); have q9 := (Ja39_ hbox 9).trans (show _ = some (Value.slice A3 b3.length c3) from rfl); have q10 := (Ja39_ hbox 10).trans (show _ = some (Value.int .i64 1) from rfl); have HB1 := Ja38_.mk hb; clear hbox hb hg))
      refine (J6_.calls k g ok v lb style 1 l A2 c2 b2 s w0 w1 HF1.out (H2.out _ (Fr.of_below HB1.out)) HC.out.2.1 HL.out HJ.out).mono ?_
      rintro e w2 ⟨rfl, hE, hfr⟩
      have HE := Ja38_.mk hE
      have HR := Ja38_.mk hfr
      clear hE hfr
      try go_wp2
      go_end0
      exact ⟨rfl, HE.out, (Fr.of_below HB1.out).trans HR.out⟩
    · go_enter Try.func119, Try.ntmps119
      go_wp2_with (first | ((with_reducible refine gate_dst (N := 3) rfl ?_); refine box_event ?hg (N := 3) ?hd (cs := #[.bool st, .int .i64 i0, .int .i64 i1, .int .i64 i2, .int .i64 i3, .int .i64 i4, .int .i64 i5, .slice A1 b1.length c1, .slice A2 b2.length c2, .slice A3 b3.length c3, .int .i64 1]) (t := 184) ?hr ?_; (case hd => rfl); (case hg => rfl); (case hr => first | (go_simp; done) | (go_simp; rfl)); intro g0 hg w1 hbox hb; have HF1 := Ja38_.mk (HF.out.on hb); have hfa := (Ja39_ HF1.out.blk 4).trans (show _ = some (Value.int .i64 3) from rfl); have q7 := (Ja39_ hbox 7).trans (show _ = some (Value.slice A1 b1.length c1) from rfl); have q8 := (Ja39_ hbox 8).trans (show _ = some (Value.slice A2 b2.length c2) from rfl); have q9 := (Ja39_ hbox 9).trans (show _ = some (Value.slice A3 b3.length c3) from rfl); have q10 := (Ja39_ hbox 10).trans (show _ = some (Value.int .i64 1) from rfl); have HB1 := Ja38_.mk hb; clear hbox hb hg))
      refine (J6_.calls k g ok v lb style 3 l A2 c2 b2 s w0 w1 HF1.out (H2.out _ (Fr.of_below HB1.out)) HC.out.2.1 HL.out HJ.out).mono ?_
      rintro e w2 ⟨rfl, hE, hfr⟩
      have HE := Ja38_.mk hE
      have HR := Ja38_.mk hfr
      clear hE hfr
      try go_wp2
      go_end0
      exact ⟨rfl, HE.out, (Fr.of_below HB1.out).trans HR.out⟩
  · have HJ : Ja38_ (J12_.f k b3 = some s) := ⟨hj⟩
    clear hj
    rcases h0 with rfl | rfl
    · go_enter Try.func119, Try.ntmps119
      go_wp2_with (first | ((with_reducible refine gate_dst (N := 3) rfl ?_); refine box_event ?hg (N := 3) ?hd (cs := #[.bool st, .int .i64 i0, .int .i64 i1, .int .i64 i2, .int .i64 i3, .int .i64 i4, .int .i64 i5, .slice A1 b1.length c1, .slice A2 b2.length c2, .slice A3 b3.length c3, .int .i64 2]) (t := 184) ?hr ?_; (case hd => rfl); (case hg => rfl); (case hr => first | (go_simp; done) | (go_simp; rfl)); intro g0 hg w1 hbox hb; have HF1 := Ja38_.mk (HF.out.on hb); have hfa := (Ja39_ HF1.out.blk 4).trans (show _ = some (Value.int .i64 1) from rfl); have q7 := (Ja39_ hbox 7).trans (show _ = some (Value.slice A1 b1.length c1) from rfl); have q8 := (Ja39_ hbox 8).trans (show _ = some (Value.slice A2 b2.length c2) from rfl); have q9 := (Ja39_ hbox 9).trans (show _ = some (Value.slice A3 b3.length c3) from rfl); have q10 := (Ja39_ hbox 10).trans (show _ = some (Value.int .i64 2) from rfl); have HB1 := Ja38_.mk hb; clear hbox hb hg))
      refine (J6_.calls k g ok v lb style 1 l A3 c3 b3 s w0 w1 HF1.out (H3.out _ (Fr.of_below HB1.out)) HC.out.2.2 HL.out HJ.out).mono ?_
      rintro e w2 ⟨rfl, hE, hfr⟩
      have HE := Ja38_.mk hE
      have HR := Ja38_.mk hfr
      clear hE hfr
      try go_wp2
      go_end0
      exact ⟨rfl, HE.out, (Fr.of_below HB1.out).trans HR.out⟩
    · go_enter Try.func119, Try.ntmps119
      go_wp2_with (first | ((with_reducible refine gate_dst (N := 3) rfl ?_); refine box_event ?hg (N := 3) ?hd (cs := #[.bool st, .int .i64 i0, .int .i64 i1, .int .i64 i2, .int .i64 i3, .int .i64 i4, .int .i64 i5, .slice A1 b1.length c1, .slice A2 b2.length c2, .slice A3 b3.length c3, .int .i64 2]) (t := 184) ?hr ?_; (case hd => rfl); (case hg => rfl); (case hr => first | (go_simp; done) | (go_simp; rfl)); intro g0 hg w1 hbox hb; have HF1 := Ja38_.mk (HF.out.on hb); have hfa := (Ja39_ HF1.out.blk 4).trans (show _ = some (Value.int .i64 3) from rfl); have q7 := (Ja39_ hbox 7).trans (show _ = some (Value.slice A1 b1.length c1) from rfl); have q8 := (Ja39_ hbox 8).trans (show _ = some (Value.slice A2 b2.length c2) from rfl); have q9 := (Ja39_ hbox 9).trans (show _ = some (Value.slice A3 b3.length c3) from rfl); have q10 := (Ja39_ hbox 10).trans (show _ = some (Value.int .i64 2) from rfl); have HB1 := Ja38_.mk hb; clear hbox hb hg))
      refine (J6_.calls k g ok v lb style 3 l A3 c3 b3 s w0 w1 HF1.out (H3.out _ (Fr.of_below HB1.out)) HC.out.2.2 HL.out HJ.out).mono ?_
      rintro e w2 ⟨rfl, hE, hfr⟩
      have HE := Ja38_.mk hE
      have HR := Ja38_.mk hfr
      clear hE hfr
      try go_wp2
      go_end0
      exact ⟨rfl, HE.out, (Fr.of_below HB1.out).trans HR.out⟩
  · have HJ : Ja38_ (J12_.f k b2 = some s) := ⟨hj⟩
    clear hj
    rcases h0 with rfl | rfl
    · go_enter Try.func119, Try.ntmps119
      go_wp2_with (first | ((with_reducible refine gate_dst (N := 3) rfl ?_); refine box_event ?hg (N := 3) ?hd (cs := #[.bool st, .int .i64 i0, .int .i64 i1, .int .i64 i2, .int .i64 i3, .int .i64 i4, .int .i64 i5, .slice A1 b1.length c1, .slice A2 b2.length c2, .slice A3 b3.length c3, .int .i64 3]) (t := 184) ?hr ?_; (case hd => rfl); (case hg => rfl); (case hr => first | (go_simp; done) | (go_simp; rfl)); intro g0 hg w1 hbox hb; have HF1 := Ja38_.mk (HF.out.on hb); have hfa := (Ja39_ HF1.out.blk 4).trans (show _ = some (Value.int .i64 1) from rfl); have q7 := (Ja39_ hbox 7).trans (show _ = some (Value.slice A1 b1.length c1) from rfl); have q8 := (Ja39_ hbox 8).trans (show _ = some (Value.slice A2 b2.length c2) from rfl); have q9 := (Ja39_ hbox 9).trans (show _ = some (Value.slice A3 b3.length c3) from rfl); have q10 := (Ja39_ hbox 10).trans (show _ = some (Value.int .i64 3) from rfl); have HB1 := Ja38_.mk hb; clear hbox hb hg))
      refine (J6_.calls k g ok v lb style 1 l A2 c2 b2 s w0 w1 HF1.out (H2.out _ (Fr.of_below HB1.out)) HC.out.2.1 HL.out HJ.out).mono ?_
      rintro e w2 ⟨rfl, hE, hfr⟩
      have HE := Ja38_.mk hE
      have HR := Ja38_.mk hfr
      clear hE hfr
      try go_wp2
      go_end0
      exact ⟨rfl, HE.out, (Fr.of_below HB1.out).trans HR.out⟩
    · go_enter Try.func119, Try.ntmps119
      go_wp2_with (first | ((with_reducible refine gate_dst (N := 3) rfl ?_); refine box_event ?hg (N := 3) ?hd (cs := #[.bool st, .int .i64 i0, .int .i64 i1, .int .i64 i2, .int .i64 i3, .int .i64 i4, .int .i64 i5, .slice A1 b1.length c1, .slice A2 b2.length c2, .slice A3 b3.length c3, .int .i64 3]) (t := 184) ?hr ?_; (case hd => rfl); (case hg => rfl); (case hr => first | (go_simp; done) | (go_simp; rfl)); intro g0 hg w1 hbox hb; have HF1 := Ja38_.mk (HF.out.on hb); have hfa := (Ja39_ HF1.out.blk 4).trans (show _ = some (Value.int .i64 3) from rfl); have q7 := (Ja39_ hbox 7).trans (show _ = some (Value.slice A1 b1.length c1) from rfl); have q8 := (Ja39_ hbox 8).trans (show _ = some (Value.slice A2 b2.length c2) from rfl); have q9 := (Ja39_ hbox 9).trans (show _ = some (Value.slice A3 b3.length c3) from rfl); have q10 := (Ja39_ hbox 10).trans (show _ = some (Value.int .i64 3) from rfl); have HB1 := Ja38_.mk hb; clear hbox hb hg))
      refine (J6_.calls k g ok v lb style 3 l A2 c2 b2 s w0 w1 HF1.out (H2.out _ (Fr.of_below HB1.out)) HC.out.2.1 HL.out HJ.out).mono ?_
      rintro e w2 ⟨rfl, hE, hfr⟩
      have HE := Ja38_.mk hE
      have HR := Ja38_.mk hfr
      clear hE hfr
      try go_wp2
      go_end0
      exact ⟨rfl, HE.out, (Fr.of_below HB1.out).trans HR.out⟩
  · rcases h0 with rfl | rfl
    · have HJ : Ja38_ (J12_.f k b2 = some s) := ⟨hj⟩
      clear hj
      go_enter Try.func119, Try.ntmps119
      go_wp2_with (first | ((with_reducible refine gate_dst (N := 3) rfl ?_); refine box_event ?hg (N := 3) ?hd (cs := #[.bool st, .int .i64 i0, .int .i64 i1, .int .i64 i2, .int .i64 i3, .int .i64 i4, .int .i64 i5, .slice A1 b1.length c1, .slice A2 b2.length c2, .slice A3 b3.length c3, .int .i64 4]) (t := 184) ?hr ?_; (case hd => rfl); (case hg => rfl); (case hr => first | (go_simp; done) | (go_simp; rfl)); intro g0 hg w1 hbox hb; have HF1 := Ja38_.mk (HF.out.on hb); have hfa := (Ja39_ HF1.out.blk 4).trans (show _ = some (Value.int .i64 1) from rfl); have q7 := (Ja39_ hbox 7).trans (show _ = some (Value.slice A1 b1.length c1) from rfl); have q8 := (Ja39_ hbox 8).trans (show _ = some (Value.slice A2 b2.length c2) from rfl); have q9 := (Ja39_ hbox 9).trans (show _ = some (Value.slice A3 b3.length c3) from rfl); have q10 := (Ja39_ hbox 10).trans (show _ = some (Value.int .i64 4) from rfl); have HB1 := Ja38_.mk hb; clear hbox hb hg))
      refine (J6_.calls k g ok v lb style 1 l A2 c2 b2 s w0 w1 HF1.out (H2.out _ (Fr.of_below HB1.out)) HC.out.2.1 HL.out HJ.out).mono ?_
      rintro e w2 ⟨rfl, hE, hfr⟩
      have HE := Ja38_.mk hE
      have HR := Ja38_.mk hfr
      clear hE hfr
      try go_wp2
      go_end0
      exact ⟨rfl, HE.out, (Fr.of_below HB1.out).trans HR.out⟩
    · have HJ : Ja38_ (J12_.f k b3 = some s) := ⟨hj⟩
      clear hj
      go_enter Try.func119, Try.ntmps119
      go_wp2_with (first | ((with_reducible refine gate_dst (N := 3) rfl ?_); refine box_event ?hg (N := 3) ?hd (cs := #[.bool st, .int .i64 i0, .int .i64 i1, .int .i64 i2, .int .i64 i3, .int .i64 i4, .int .i64 i5, .slice A1 b1.length c1, .slice A2 b2.length c2, .slice A3 b3.length c3, .int .i64 4]) (t := 184) ?hr ?_; (case hd => rfl); (case hg => rfl); (case hr => first | (go_simp; done) | (go_simp; rfl)); intro g0 hg w1 hbox hb; have HF1 := Ja38_.mk (HF.out.on hb); have hfa := (Ja39_ HF1.out.blk 4).trans (show _ = some (Value.int .i64 3) from rfl); have q7 := (Ja39_ hbox 7).trans (show _ = some (Value.slice A1 b1.length c1) from rfl); have q8 := (Ja39_ hbox 8).trans (show _ = some (Value.slice A2 b2.length c2) from rfl); have q9 := (Ja39_ hbox 9).trans (show _ = some (Value.slice A3 b3.length c3) from rfl); have q10 := (Ja39_ hbox 10).trans (show _ = some (Value.int .i64 4) from rfl); have HB1 := Ja38_.mk hb; clear hbox hb hg))
      refine (J6_.calls k g ok v lb style 3 l A3 c3 b3 s w0 w1 HF1.out (H3.out _ (Fr.of_below HB1.out)) HC.out.2.2 HL.out HJ.out).mono ?_
      rintro e w2 ⟨rfl, hE, hfr⟩
      have HE := Ja38_.mk hE
      have HR := Ja38_.mk hfr
      clear hE hfr
      try go_wp2
      go_end0
      exact ⟨rfl, HE.out, (Fr.of_below HB1.out).trans HR.out⟩
end Go.Proofs.Ytadafplbgophfaa.PA
end
section
namespace Go.Proofs.Ytadafplbgophfaa.PA
set_option linter.unusedSimpArgs false
set_option linter.unusedVariables false
open Go.RowKit Go.Proofs.YtadafplbgophfaaW.PrintWords Go.Proofs.YtadafplbgophfaaW.PrintLast Go.Proofs.YtadafplbgophfaaW.PrintMore
def hunk (lb : S116) (style : Int) (jb jl jr : ByteArray) : S120 := if style = 0 then ⟨⟨lb.f0, ⟨#[]⟩, lb.f2⟩, true, ⟨#[]⟩, jl, ⟨#[]⟩, jr, false⟩ else ⟨lb, true, ⟨#[]⟩, jl, jb, jr, true⟩
theorem alloc_gen137 {P : World → Prop} {W : World} {cs : Array Value} {t : TypeId} (h : ∀ W', W'.heap[W.heap.size]? = some (.cells cs t (0, 0)) → Below W.heap.size W W' → P W') : P (W.alloc (.cells cs t (0, 0))) := h _ (blk_new W _) (Ja43_ (Below.refl _ _) _)
theorem fill9 {w : World} {s : Nat} {z0 z1 z2 z3 z4 z5 z6 z7 z8 : Value} (h : w.heap[s]? = some (.cells #[z0, z1, z2, z3, z4, z5, z6, z7, z8] 120 (0, 0))) (v0 v1 v2 v3 v4 v5 v6 v7 v8 : Value) :
  (((((((((w.setCell ⟨s, 0, none⟩ v0).setCell ⟨s, 1, none⟩ v1).setCell ⟨s, 2, none⟩ v2).setCell ⟨s, 3, none⟩ v3).setCell ⟨s, 4, none⟩ v4).setCell ⟨s, 5, none⟩ v5).setCell ⟨s, 6, none⟩ v6).setCell ⟨s, 7, none⟩ v7).setCell ⟨s, 8, none⟩ v8).heap[s]? = some (.cells #[v0, v1, v2, v3, v4, v5, v6, v7, v8] 120 (0, 0)) := by
 have h0 : (w.setCell ⟨s, 0, none⟩ v0).heap[s]? = some (.cells #[v0, z1, z2, z3, z4, z5, z6, z7, z8] 120 (0, 0)) := blk_put h 0 v0 rfl
 have h1 : ((w.setCell ⟨s, 0, none⟩ v0).setCell ⟨s, 1, none⟩ v1).heap[s]? = some (.cells #[v0, v1, z2, z3, z4, z5, z6, z7, z8] 120 (0, 0)) := blk_put h0 1 v1 rfl
 have h2 : (((w.setCell ⟨s, 0, none⟩ v0).setCell ⟨s, 1, none⟩ v1).setCell ⟨s, 2, none⟩ v2).heap[s]? = some (.cells #[v0, v1, v2, z3, z4, z5, z6, z7, z8] 120 (0, 0)) := blk_put h1 2 v2 rfl
 have h3 : ((((w.setCell ⟨s, 0, none⟩ v0).setCell ⟨s, 1, none⟩ v1).setCell ⟨s, 2, none⟩ v2).setCell ⟨s, 3, none⟩ v3).heap[s]? = some (.cells #[v0, v1, v2, v3, z4, z5, z6, z7, z8] 120 (0, 0)) := blk_put h2 3 v3 rfl
 have h4 : (((((w.setCell ⟨s, 0, none⟩ v0).setCell ⟨s, 1, none⟩ v1).setCell ⟨s, 2, none⟩ v2).setCell ⟨s, 3, none⟩ v3).setCell ⟨s, 4, none⟩ v4).heap[s]? = some (.cells #[v0, v1, v2, v3, v4, z5, z6, z7, z8] 120 (0, 0)) := blk_put h3 4 v4 rfl
 have h5 : ((((((w.setCell ⟨s, 0, none⟩ v0).setCell ⟨s, 1, none⟩ v1).setCell ⟨s, 2, none⟩ v2).setCell ⟨s, 3, none⟩ v3).setCell ⟨s, 4, none⟩ v4).setCell ⟨s, 5, none⟩ v5).heap[s]? = some (.cells #[v0, v1, v2, v3, v4, v5, z6, z7, z8] 120 (0, 0)) := blk_put h4 5 v5 rfl
 have h6 : (((((((w.setCell ⟨s, 0, none⟩ v0).setCell ⟨s, 1, none⟩ v1).setCell ⟨s, 2, none⟩ v2).setCell ⟨s, 3, none⟩ v3).setCell ⟨s, 4, none⟩ v4).setCell ⟨s, 5, none⟩ v5).setCell ⟨s, 6, none⟩ v6).heap[s]? = some (.cells #[v0, v1, v2, v3, v4, v5, v6, z7, z8] 120 (0, 0)) := blk_put h5 6 v6 rfl
 have h7 : ((((((((w.setCell ⟨s, 0, none⟩ v0).setCell ⟨s, 1, none⟩ v1).setCell ⟨s, 2, none⟩ v2).setCell ⟨s, 3, none⟩ v3).setCell ⟨s, 4, none⟩ v4).setCell ⟨s, 5, none⟩ v5).setCell ⟨s, 6, none⟩ v6).setCell ⟨s, 7, none⟩ v7).heap[s]? = some (.cells #[v0, v1, v2, v3, v4, v5, v6, v7, z8] 120 (0, 0)) := blk_put h6 7 v7 rfl
 have h8 : (((((((((w.setCell ⟨s, 0, none⟩ v0).setCell ⟨s, 1, none⟩ v1).setCell ⟨s, 2, none⟩ v2).setCell ⟨s, 3, none⟩ v3).setCell ⟨s, 4, none⟩ v4).setCell ⟨s, 5, none⟩ v5).setCell ⟨s, 6, none⟩ v6).setCell ⟨s, 7, none⟩ v7).setCell ⟨s, 8, none⟩ v8).heap[s]? = some (.cells #[v0, v1, v2, v3, v4, v5, v6, v7, v8] 120 (0, 0)) := blk_put h7 8 v8 rfl
 exact h8
theorem fill2 {w : World} {s : Nat} {z0 z1 z2 z3 z4 z5 z6 z7 z8 : Value} (h : w.heap[s]? = some (.cells #[z0, z1, z2, z3, z4, z5, z6, z7, z8] 120 (0, 0))) (v8 v6 : Value) :
  ((w.setCell ⟨s, 8, none⟩ v8).setCell ⟨s, 6, none⟩ v6).heap[s]? = some (.cells #[z0, z1, z2, z3, z4, z5, v6, z7, v8] 120 (0, 0)) := by
 have h0 : (w.setCell ⟨s, 8, none⟩ v8).heap[s]? = some (.cells #[z0, z1, z2, z3, z4, z5, z6, z7, v8] 120 (0, 0)) := blk_put h 8 v8 rfl
 exact blk_put h0 6 v6 rfl
theorem below_step0 {w wd w' : World} (h : Below w.heap.size w wd) (h' : Below wd.heap.size wd w') : Below w.heap.size w w' := Ja44_ h h'
def J4_.T4 : Bool × List (List Nat × List Nat) := (true, [([], []), ([0], [0]), ([1], [1]), ([2], [2]), ([], []), ([4], [4]), ([], []), ([], []), ([7], [7]), ([8], [8]), ([], []), ([9, 10], [9, 10]), ([5, 6, 11], [5, 6, 11]), ([12], [12]), ([], []), ([14], [14]), ([], []), ([], []), ([17], [17]), ([18], [18]), ([], []), ([19, 20], [19, 20]), ([15, 16, 21], [15, 16, 21]), ([22, 13], [22]), ([3, 13, 23], [3, 13, 23]), ([], []), ([25, 24, 23, 0, 1, 2, 3, 4, 5, 6, 7, 8, 9, 10, 11, 12, 13, 14, 15, 16, 17, 18, 19, 20, 21, 22, 23, 24, 25], [24, 25])])
def J4_.B4 : List Nat := [0, 1, 3, 7, 0, 16, 0, 0, 128, 384, 0, 1920, 4080, 8176, 0, 16384, 0, 0, 131072, 393216, 0, 1966080, 4177920, 8388592, 16777215, 0, 67108863]
theorem J4_.tab4 : rtab .any (opsOf Try.f137 4) = J4_.T4 := by kernel_rfl
theorem J4_.bits4 : waitsOk J4_.T4.2 J4_.B4 = true := by kernel_rfl
def J4_.T9 : Bool × List (List Nat × List Nat) := (true, [([], []), ([], []), ([1], [1]), ([2], [2]), ([3], [3]), ([], []), ([5], [5]), ([4, 6], [4, 6]), ([0, 0, 1, 2, 3, 4, 5, 6, 7], [0]), ([8, 0, 1, 2, 3, 4, 5, 6, 7], [8]), ([9, 7, 7, 0, 1, 2, 3, 4, 5, 6, 7], [7, 9])])
def J4_.B9 : List Nat := [0, 0, 2, 6, 14, 0, 32, 126, 255, 511, 1023]
theorem J4_.tab9 : rtab .any (opsOf Try.f137 9) = J4_.T9 := by kernel_rfl
theorem J4_.bits9 : waitsOk J4_.T9.2 J4_.B9 = true := by kernel_rfl
set_option maxHeartbeats 8000000 in
set_option maxRecDepth 100000 in
theorem J4_.calls (k : Nat) (g : Nat) (ok : Nat → Prop) (v : Value) (lb : S116) (style favour : Int) (l : List S120) (st : Bool) (i0 i1 i2 i3 i4 i5 : Int) (cls : Int)
  (A1 : Option Addr) (c1 : Nat) (b1 : List ByteArray) (A2 : Option Addr) (c2 : Nat) (b2 : List ByteArray) (A3 : Option Addr) (c3 : Nat) (b3 : List ByteArray) (w0 w : World) (hF : Bld w0 w g ok v lb style favour l)
  (hr1 : Kd.F Kd.string w (fun k => ¬ ok k ∧ k ≠ g) A1 b1.length b1) (hc1 : b1.length ≤ c1) (hr2 : Kd.F Kd.string w (fun k => ¬ ok k ∧ k ≠ g) A2 b2.length b2) (hc2 : b2.length ≤ c2) (hr3 : Kd.F Kd.string w (fun k => ¬ ok k ∧ k ≠ g) A3 b3.length b3) (hc3 : b3.length ≤ c3)
  (n m : Int) (h2 : style = 2) (hn : J3_.f k b2 b3 = some (n, m)) (hn0 : 0 ≤ n) (hm0 : 0 ≤ m) (hnm : n + m ≤ b2.length) (hnm3 : n + m ≤ b3.length) (hl : l.length ≤ 900000000)
  (jb jl jr s1 s3 : ByteArray) (hjb : J12_.f k b1 = some jb) (hjl : J12_.f k ((b2.take ((b2.length : Int) - m).toNat).drop n.toNat) = some jl) (hjr : J12_.f k ((b3.take ((b3.length : Int) - m).toNat).drop n.toNat) = some jr)
  (hs1 : J12_.f k (b2.take n.toNat) = some s1) (hs3 : J12_.f k (b2.drop ((b2.length : Int) - m).toNat) = some s3) :
  Calls Try.prog 137 #[.pointer (some ⟨g, 0, none⟩), .agg #[.bool st, .int .i64 i0, .int .i64 i1, .int .i64 i2, .int .i64 i3, .int .i64 i4, .int .i64 i5, .slice A1 b1.length c1, .slice A2 b2.length c2, .slice A3 b3.length c3, .int .i64 cls]] w fun e w' => e = .returned (.tuple #[]) ∧ (∃ v', Bld w0 w' g ok v' lb style favour (l ++ [textPart s1, hunk lb style jb jl jr, textPart s3])) ∧ Fr ok g w w' := by
 have HF := Ja38_.mk hF
 have H1 := Ja38_.mk (fun W' (h : Fr ok g w W') => hr1 W' (fun k hk hlt => h.2 k hlt hk.1 hk.2))
 have H2 := Ja38_.mk (fun W' (h : Fr ok g w W') => hr2 W' (fun k hk hlt => h.2 k hlt hk.1 hk.2))
 have H3 := Ja38_.mk (fun W' (h : Fr ok g w W') => hr3 W' (fun k hk hlt => h.2 k hlt hk.1 hk.2))
 obtain ⟨iz, hinfo, _, hsz, _⟩ := info_parts info9
 obtain ⟨e2, he2⟩ : ∃ e, wrap64 ((b2.length : Int) - m) = e := ⟨_, rfl⟩
 obtain ⟨e3, he3⟩ : ∃ e, wrap64 ((b3.length : Int) - m) = e := ⟨_, rfl⟩
 have he2' : (b2.length : Int) - m = e2 := by have := Kd.F_max hr2; rw [← he2]; unfold wrap64; omega
 have he3' : (b3.length : Int) - m = e3 := by have := Kd.F_max hr3; rw [← he3]; unfold wrap64; omega
 rw [he2'] at hjl hs3
 rw [he3'] at hjr
 obtain ⟨B2, d2, hcut2, hC2, hL2⟩ := cut_lh Kd.string 27 9 Try.underlying27 hinfo hsz A2 c2 b2 n e2 hn0 (by omega) (by omega) hc2
 obtain ⟨B3, d3, hcut3, hC3, hL3⟩ := cut_lh Kd.string 27 9 Try.underlying27 hinfo hsz A3 c3 b3 n e3 hn0 (by omega) (by omega) hc3
 obtain ⟨hcut4, hC4, hL4⟩ := cut_h Kd.string 27 9 Try.underlying27 hinfo hsz A2 c2 b2 n hn0 (by omega) hc2
 obtain ⟨B5, d5, hcut5, hC5, hL5⟩ := cut_l Kd.string 27 9 Try.underlying27 hinfo hsz A2 c2 b2 e2 (by omega) (by omega) hc2
 generalize b2.take n.toNat = t4 at hcut4 hC4 hL4 hs1
 generalize b2.drop e2.toNat = t5 at hcut5 hC5 hL5 hs3
 have HT4 := Ja38_.mk (fun W' (h : Fr ok g w W') => hC4 _ (H2.out W' h))
 have HT5 := Ja38_.mk (fun W' (h : Fr ok g w W') => hC5 _ (H2.out W' h))
 have HL4 := Ja38_.mk hL4
 have HL5 := Ja38_.mk hL5
 have HJ := Ja38_.mk (And.intro hjb (And.intro hs1 hs3))
 clear hC4 hC5 hL4 hL5
 generalize (b2.take e2.toNat).drop n.toNat = t2 at hcut2 hC2 hL2 hjl
 generalize (b3.take e3.toNat).drop n.toNat = t3 at hcut3 hC3 hL3 hjr
 have HT2 := Ja38_.mk (fun W' (h : Fr ok g w W') => hC2 _ (H2.out W' h))
 have HT3 := Ja38_.mk (fun W' (h : Fr ok g w W') => hC3 _ (H3.out W' h))
 have HL2 := Ja38_.mk hL2
 have HL3 := Ja38_.mk hL3
 have HE := Ja38_.mk (And.intro he2' (And.intro he3' (And.intro hnm hnm3)))
 have HLL := Ja38_.mk hl
 have HN := Ja38_.mk (And.intro hn0 hm0)
 have HJS := Ja38_.mk (And.intro hjl hjr)
 clear hC2 hC3 hL2 hL3 he2' he3' hjl hjr hjb hs1 hs3 hnm hnm3 hl hn0 hm0
 have hu181 := Try.underlying181
 have hu116 := Try.underlying116
 have hu120 := Try.underlying120
 have hu184 := Try.underlying184
 clear hF hr1 hr2 hr3
 go_enter Try.func137, Try.ntmps137
 have hs2 : (style == 2) = true := beq_iff_eq.mpr h2
 have hs2b : decide (style = 2) = true := decide_eq_true h2
 have hs0 : (style == 0) = false := beq_eq_false_iff_ne.mpr (by omega)
 have hs0b : decide (style = 0) = false := decide_eq_false (by omega)
 go_wp2_with (first | ((with_reducible refine gate_dst (N := 3) rfl ?_); refine box_event ?hg (N := 3) ?hd (cs := #[.bool st, .int .i64 i0, .int .i64 i1, .int .i64 i2, .int .i64 i3, .int .i64 i4, .int .i64 i5, .slice A1 b1.length c1, .slice A2 b2.length c2, .slice A3 b3.length c3, .int .i64 cls]) (t := 184) ?hr ?_; (case hd => rfl); (case hg => rfl); (case hr => first | (go_simp; done) | (go_simp; rfl)); intro g0 hg w1 hbox hb; subst hg; have BP := Ja38_.mk hbox; have HF1 := Ja38_.mk (HF.out.shrink hb _ (Nat.le_refl _) (blk_lt hbox)); have hst := (Ja39_ HF1.out.blk 3).trans (show _ = some (Value.int .i64 style) from rfl); have hp2 := (Ja39_ hbox 8).trans (show _ = some (Value.slice A2 b2.length c2) from rfl); have hp3 := (Ja39_ hbox 9).trans (show _ = some (Value.slice A3 b3.length c3) from rfl); have HB1 := Ja38_.mk hb; clear hbox hb))
 refine (J3_.calls k A2 c2 b2 A3 c3 b3 n m w1 (H2.out _ (Fr.of_below HB1.out)) hc2 (H3.out _ (Fr.of_below HB1.out)) hc3 hn).mono ?_
 rintro e w2 ⟨rfl, hD⟩
 have hb := Drawn0.below hD
 have HB2 := Ja38_.mk (Ja44_ HB1.out hb)
 have HF2 := Ja38_.mk (HF1.out.on hb)
 have BP2 := Ja38_.mk (Ja47_ BP.out hb)
 clear hD hb HB1 HF1 BP hst hp2 hp3
 have hk0 := (Ja39_ HF2.out.blk 0).trans (show _ = some (Value.string lb.f0) from rfl)
 have hk1 := (Ja39_ HF2.out.blk 1).trans (show _ = some (Value.string lb.f1) from rfl)
 have hk2 := (Ja39_ HF2.out.blk 2).trans (show _ = some (Value.string lb.f2) from rfl)
 have hp2 := (Ja39_ BP2.out 8).trans (show _ = some (Value.slice A2 b2.length c2) from rfl)
 have hp3 := (Ja39_ BP2.out 9).trans (show _ = some (Value.slice A3 b3.length c3) from rfl)
 go_wp2_with fail
 refine start_ (n := 27) (S := fun w' => w'.cell? ⟨g, 0, none⟩ = some (.string lb.f0) ∧ w'.cell? ⟨g, 1, none⟩ = some (.string lb.f1) ∧ w'.cell? ⟨g, 2, none⟩ = some (.string lb.f2) ∧ w'.cell? ⟨w.heap.size, 8, none⟩ = some (.slice A2 b2.length c2) ∧ w'.cell? ⟨w.heap.size, 9, none⟩ = some (.slice A3 b3.length c3)) (ds := [26]) (bz_ 27 0) (by kernel_rfl) rfl rfl ⟨hk0, hk1, hk2, hp2, hp3⟩ (fun hHeld => ?_); refine with_tabW J4_.tab4 J4_.bits4 (fun HT_ HW_ => ?_)
 have HFd := Ja38_.mk HF2.out.drew
 have BPd := Ja38_.mk (Ja49_ BP2.out)
 have HBd := Ja38_.mk (Ja42_ HB2.out)
 clear hk0 hk1 hk2 hp2 hp3
 generalize w2.drew = wd at HFd BPd HBd hHeld ⊢
 clear HF2 BP2 HB2
 refine pure_ (i := 0) (N := some 20) (v := ?_) (a' := ?_) (bz_ 27 1) rfl rfl (any_of HT_.out (by kernel_rfl)) (fun _ _ _ h => h) (Or.inl ⟨by rfl, ?_⟩) ?_ ?_
 rotate_left
 ·intro w'
  go_simp
  with_reducible rfl
 rotate_left
 ·simp only [Act.put, sA_, sB_, sC_, i64_w, i32_w]
  rfl
 refine pure_ (i := 1) (N := some 21) (v := ?_) (a' := ?_) (bz_ 27 3) rfl rfl (any_of HT_.out (by kernel_rfl)) (fun _ _ _ h => h) (Or.inl ⟨by rfl, ?_⟩) ?_ ?_
 rotate_left
 ·intro w'
  go_simp
  with_reducible rfl
 rotate_left
 ·simp only [Act.put, sA_, sB_, sC_, i64_w, i32_w]
  rfl
 refine pure_ (i := 2) (N := some 22) (v := ?_) (a' := ?_) (bz_ 27 7) rfl rfl (any_of HT_.out (by kernel_rfl)) (fun _ _ _ h => h) (Or.inl ⟨by rfl, ?_⟩) ?_ ?_
 rotate_left
 ·intro w'
  go_simp
  with_reducible rfl
 rotate_left
 ·simp only [Act.put, sA_, sB_, sC_, i64_w, i32_w]
  rfl
 refine take_ (i := 3) (N := some 23) (v := ?_) (a' := ?_) (bz_ 27 15) rfl rfl (Ja52_ HT_.out HW_.out (by kernel_rfl)) (fun _ _ _ h => h) (Or.inl ⟨by rfl, ?_⟩) hHeld ?_ ?_
 rotate_left
 ·rintro w' ⟨s0, s1, s2, s3, s4⟩
  go_simp
  with_reducible rfl
 rotate_left
 ·simp only [Act.put, sA_, sB_, sC_, i64_w, i32_w]
  rfl
 refine pure_ (i := 4) (N := some 24) (v := ?_) (a' := ?_) (bz_ 27 31) rfl rfl (any_of HT_.out (by kernel_rfl)) (fun _ _ _ h => h) (Or.inl ⟨by rfl, ?_⟩) ?_ ?_
 rotate_left
 ·intro w'
  go_simp
  with_reducible rfl
 rotate_left
 ·simp only [Act.put, sA_, sB_, sC_, i64_w, i32_w]
  rfl
 refine take_ (i := 5) (N := some 25) (v := ?_) (a' := ?_) (bz_ 27 63) rfl rfl (Ja52_ HT_.out HW_.out (by kernel_rfl)) (fun _ _ _ h => h) (Or.inl ⟨by rfl, ?_⟩) hHeld ?_ ?_
 rotate_left
 ·rintro w' ⟨s0, s1, s2, s3, s4⟩
  go_simp
  with_reducible rfl
 rotate_left
 ·simp only [Act.put, sA_, sB_, sC_, i64_w, i32_w]
  rfl
 refine pure_ (i := 6) (N := some 26) (v := ?_) (a' := ?_) (bz_ 27 127) rfl rfl (any_of HT_.out (by kernel_rfl)) (fun _ _ _ h => h) (Or.inl ⟨by rfl, ?_⟩) ?_ ?_
 rotate_left
 ·intro w'
  go_simp
  with_reducible rfl
 rotate_left
 ·simp only [Act.put, sA_, sB_, sC_, i64_w, i32_w]
  rfl
 refine pure_ (i := 7) (N := some 27) (v := ?_) (a' := ?_) (bz_ 27 255) rfl rfl (any_of HT_.out (by kernel_rfl)) (fun _ _ _ h => h) (Or.inl ⟨by rfl, ?_⟩) ?_ ?_
 rotate_left
 ·intro w'
  go_simp
  with_reducible rfl
 rotate_left
 ·simp only [Act.put, sA_, sB_, sC_, i64_w, i32_w]
  rfl
 refine take_ (i := 8) (N := some 28) (v := ?_) (a' := ?_) (bz_ 27 511) rfl rfl (Ja52_ HT_.out HW_.out (by kernel_rfl)) (fun _ _ _ h => h) (Or.inl ⟨by rfl, ?_⟩) hHeld ?_ ?_
 rotate_left
 ·rintro w' ⟨s0, s1, s2, s3, s4⟩
  go_simp
  with_reducible rfl
 rotate_left
 ·simp only [Act.put, sA_, sB_, sC_, i64_w, i32_w]
  rfl
 refine pure_ (i := 9) (N := some 29) (v := ?_) (a' := ?_) (bz_ 27 1023) rfl rfl (any_of HT_.out (by kernel_rfl)) (fun _ _ _ h => h) (Or.inl ⟨by rfl, ?_⟩) ?_ ?_
 rotate_left
 ·intro w'
  go_simp
  with_reducible rfl
 rotate_left
 ·simp only [Act.put, sA_, sB_, sC_, i64_w, i32_w]
  rfl
 refine pure_ (i := 10) (N := some 30) (v := ?_) (a' := ?_) (bz_ 27 2047) rfl rfl (any_of HT_.out (by kernel_rfl)) (fun _ _ _ h => h) (Or.inl ⟨by rfl, ?_⟩) ?_ ?_
 rotate_left
 ·intro w'
  go_simp
  with_reducible rfl
 rotate_left
 ·simp only [Act.put, sA_, sB_, sC_, i64_w, i32_w]
  rfl
 refine pure_ (i := 11) (N := some 31) (v := ?_) (a' := ?_) (bz_ 27 4095) rfl rfl (any_of HT_.out (by kernel_rfl)) (fun _ _ _ h => h) (Or.inl ⟨by rfl, ?_⟩) ?_ ?_
 rotate_left
 ·intro w'
  go_simp
  with_reducible rfl
 rotate_left
 ·simp only [Act.put, sA_, sB_, sC_, i64_w, i32_w, he2]
  rfl
 refine pure_ (i := 12) (N := some 32) (v := ?_) (a' := ?_) (bz_ 27 8191) rfl rfl (any_of HT_.out (by kernel_rfl)) (fun _ _ _ h => h) (Or.inl ⟨by rfl, ?_⟩) ?_ ?_
 rotate_left
 ·intro w'
  go_simp
  first | with_reducible rfl | exact hcut2 _ | (rw [hcut2]; rfl)
 rotate_left
 ·simp only [Act.put, sA_, sB_, sC_, i64_w, i32_w]
  rfl
 refine pure_ (i := 14) (N := some 34) (v := ?_) (a' := ?_) (bz_ 27 24575) rfl rfl (any_of HT_.out (by kernel_rfl)) (fun _ _ _ h => h) (Or.inl ⟨by rfl, ?_⟩) ?_ ?_
 rotate_left
 ·intro w'
  go_simp
  with_reducible rfl
 rotate_left
 ·simp only [Act.put, sA_, sB_, sC_, i64_w, i32_w]
  rfl
 refine take_ (i := 15) (N := some 35) (v := ?_) (a' := ?_) (bz_ 27 57343) rfl rfl (Ja52_ HT_.out HW_.out (by kernel_rfl)) (fun _ _ _ h => h) (Or.inl ⟨by rfl, ?_⟩) hHeld ?_ ?_
 rotate_left
 ·rintro w' ⟨s0, s1, s2, s3, s4⟩
  go_simp
  with_reducible rfl
 rotate_left
 ·simp only [Act.put, sA_, sB_, sC_, i64_w, i32_w]
  rfl
 refine pure_ (i := 16) (N := some 36) (v := ?_) (a' := ?_) (bz_ 27 122879) rfl rfl (any_of HT_.out (by kernel_rfl)) (fun _ _ _ h => h) (Or.inl ⟨by rfl, ?_⟩) ?_ ?_
 rotate_left
 ·intro w'
  go_simp
  with_reducible rfl
 rotate_left
 ·simp only [Act.put, sA_, sB_, sC_, i64_w, i32_w]
  rfl
 refine pure_ (i := 17) (N := some 37) (v := ?_) (a' := ?_) (bz_ 27 253951) rfl rfl (any_of HT_.out (by kernel_rfl)) (fun _ _ _ h => h) (Or.inl ⟨by rfl, ?_⟩) ?_ ?_
 rotate_left
 ·intro w'
  go_simp
  with_reducible rfl
 rotate_left
 ·simp only [Act.put, sA_, sB_, sC_, i64_w, i32_w]
  rfl
 refine take_ (i := 18) (N := some 38) (v := ?_) (a' := ?_) (bz_ 27 516095) rfl rfl (Ja52_ HT_.out HW_.out (by kernel_rfl)) (fun _ _ _ h => h) (Or.inl ⟨by rfl, ?_⟩) hHeld ?_ ?_
 rotate_left
 ·rintro w' ⟨s0, s1, s2, s3, s4⟩
  go_simp
  with_reducible rfl
 rotate_left
 ·simp only [Act.put, sA_, sB_, sC_, i64_w, i32_w]
  rfl
 refine pure_ (i := 19) (N := some 39) (v := ?_) (a' := ?_) (bz_ 27 1040383) rfl rfl (any_of HT_.out (by kernel_rfl)) (fun _ _ _ h => h) (Or.inl ⟨by rfl, ?_⟩) ?_ ?_
 rotate_left
 ·intro w'
  go_simp
  with_reducible rfl
 rotate_left
 ·simp only [Act.put, sA_, sB_, sC_, i64_w, i32_w]
  rfl
 refine pure_ (i := 20) (N := some 40) (v := ?_) (a' := ?_) (bz_ 27 2088959) rfl rfl (any_of HT_.out (by kernel_rfl)) (fun _ _ _ h => h) (Or.inl ⟨by rfl, ?_⟩) ?_ ?_
 rotate_left
 ·intro w'
  go_simp
  with_reducible rfl
 rotate_left
 ·simp only [Act.put, sA_, sB_, sC_, i64_w, i32_w]
  rfl
 refine pure_ (i := 21) (N := some 41) (v := ?_) (a' := ?_) (bz_ 27 4186111) rfl rfl (any_of HT_.out (by kernel_rfl)) (fun _ _ _ h => h) (Or.inl ⟨by rfl, ?_⟩) ?_ ?_
 rotate_left
 ·intro w'
  go_simp
  with_reducible rfl
 rotate_left
 ·simp only [Act.put, sA_, sB_, sC_, i64_w, i32_w, he3]
  rfl
 refine pure_ (i := 22) (N := some 42) (v := ?_) (a' := ?_) (bz_ 27 8380415) rfl rfl (any_of HT_.out (by kernel_rfl)) (fun _ _ _ h => h) (Or.inl ⟨by rfl, ?_⟩) ?_ ?_
 rotate_left
 ·intro w'
  go_simp
  first | with_reducible rfl | exact hcut3 _ | (rw [hcut3]; rfl)
 rotate_left
 ·simp only [Act.put, sA_, sB_, sC_, i64_w, i32_w]
  rfl
 have HB0 := Ja38_.mk (Below.refl wd.heap.size wd)
 have HF0 := HFd
 have BP0 := BPd
 refine join_ (σ := Nat) 1 (bz_ 27 67108863) (fun s => [(33, .string jl), (43, .string jr), (44, .agg #[.string lb.f0, .string lb.f1, .string lb.f2, .bool true, .string ⟨#[]⟩, .string jl, .string ⟨#[]⟩, .string jr, .bool false]), (6, .pointer (some ⟨s, 0, none⟩))]) (fun s w' => (w'.cell? ⟨g, 0, none⟩ = some (.string lb.f0) ∧ w'.cell? ⟨g, 1, none⟩ = some (.string lb.f1) ∧ w'.cell? ⟨g, 2, none⟩ = some (.string lb.f2) ∧ w'.cell? ⟨w.heap.size, 8, none⟩ = some (.slice A2 b2.length c2) ∧ w'.cell? ⟨w.heap.size, 9, none⟩ = some (.slice A3 b3.length c3)) ∧ Bld w0 w' g (fun k => ok k ∧ k ≠ w.heap.size) v lb style favour l ∧ w'.heap[w.heap.size]? = some (.cells #[.bool st, .int .i64 i0, .int .i64 i1, .int .i64 i2, .int .i64 i3, .int .i64 i4, .int .i64 i5, .slice A1 b1.length c1, .slice A2 b2.length c2, .slice A3 b3.length c3, .int .i64 cls] 184 (0, 0)) ∧ w'.heap[s]? = some (.cells #[.string ⟨#[]⟩, .string ⟨#[]⟩, .string ⟨#[]⟩, .bool false, .string ⟨#[]⟩, .string ⟨#[]⟩, .string ⟨#[]⟩, .string ⟨#[]⟩, .bool false] 120 (0, 0)) ∧ Below wd.heap.size wd w' ∧ wd.heap.size ≤ s) ?_ ?_
 rotate_left
 ·intro hJ
  refine two_ (i := 13) (j := 25) (Ni := some 33) (Nj := some 6) (bz_ 27 8388607) (bz_ 27 41934847) rfl rfl rfl rfl (two_of HT_.out (by kernel_rfl)) (by decide) (by decide) (fun K hK => ?_) (fun K hK => ?_)
  ·skip
   refine goes_ Try.func146 (by kernel_rfl) rfl #[.slice B2 t2.length d2] (by rfl) rfl rfl (by (try simp only [List.map_toArray, List.map_cons, List.map_nil]); first | done | rfl) ?_
   refine (J12_.calls k B2 d2 t2 jl _ (HT2.out _ (Fr.of_below (below_step0 HBd.out HB0.out))) HL2.out HJS.out.1).mono ?_
   rintro e w' ⟨rfl, hb⟩
   refine ⟨_, rfl, ?_⟩
   have HFq1 := Ja38_.mk (HF0.out.on hb)
   have BPq1 := Ja38_.mk (Ja47_ BP0.out hb)
   have HBq1 := Ja38_.mk (Ja44_ HB0.out hb)
   clear hb
   refine hK.out _ _ ⟨(Ja39_ HFq1.out.blk 0).trans (show _ = some _ from rfl), (Ja39_ HFq1.out.blk 1).trans (show _ = some _ from rfl), (Ja39_ HFq1.out.blk 2).trans (show _ = some _ from rfl), (Ja39_ BPq1.out 8).trans (show _ = some _ from rfl), (Ja39_ BPq1.out 9).trans (show _ = some _ from rfl)⟩ (fun hHeld => ?_)
   clear hK K
   refine norm_ (a' := ?_) ?_ ?_
   rotate_left
   ·show Act.put _ (some 33) _ = _
    simp only [Act.put, sA_, sB_, sC_, i64_w, i32_w]
    rfl
   refine two_ (i := 23) (j := 25) (Ni := some 43) (Nj := some 6) (bz_ 27 16777215) (bz_ 27 41943039) rfl rfl rfl rfl (two_of HT_.out (by kernel_rfl)) (by decide) (by decide) (fun K hK => ?_) (fun K hK => ?_)
   ·skip
    refine goes_ Try.func146 (by kernel_rfl) rfl #[.slice B3 t3.length d3] (by rfl) rfl rfl (by (try simp only [List.map_toArray, List.map_cons, List.map_nil]); first | done | rfl) ?_
    refine (J12_.calls k B3 d3 t3 jr _ (HT3.out _ (Fr.of_below (below_step0 HBd.out HBq1.out))) HL3.out HJS.out.2).mono ?_
    rintro e w' ⟨rfl, hb⟩
    refine ⟨_, rfl, ?_⟩
    have HFq2 := Ja38_.mk (HFq1.out.on hb)
    have BPq2 := Ja38_.mk (Ja47_ BPq1.out hb)
    have HBq2 := Ja38_.mk (Ja44_ HBq1.out hb)
    clear hb
    refine hK.out _ _ ⟨(Ja39_ HFq2.out.blk 0).trans (show _ = some _ from rfl), (Ja39_ HFq2.out.blk 1).trans (show _ = some _ from rfl), (Ja39_ HFq2.out.blk 2).trans (show _ = some _ from rfl), (Ja39_ BPq2.out 8).trans (show _ = some _ from rfl), (Ja39_ BPq2.out 9).trans (show _ = some _ from rfl)⟩ (fun hHeld => ?_)
    clear hK K
    refine norm_ (a' := ?_) ?_ ?_
    rotate_left
    ·show Act.put _ (some 43) _ = _
     simp only [Act.put, sA_, sB_, sC_, i64_w, i32_w]
     rfl
    refine pure_ (i := 24) (N := some 44) (v := ?_) (a' := ?_) (bz_ 27 33554431) rfl rfl (any_of HT_.out (by kernel_rfl)) (fun _ _ _ h => h) (Or.inl ⟨by rfl, ?_⟩) ?_ ?_
    rotate_left
    ·intro w'
     go_simp
     with_reducible rfl
    rotate_left
    ·simp only [Act.put, sA_, sB_, sC_, i64_w, i32_w]
     rfl
    refine one_ (i := 25) (N := some 6) (bz_ 27 67108863) rfl rfl (one_of HT_.out (by kernel_rfl)) (by decide) (fun K hK => ?_)
    refine value_ (w1 := ?_) (v := ?_) (by rfl) rfl ?_ ?_
    rotate_left 2
    ·go_simp
     constructor
     ·rfl
     ·rfl
    refine alloc_gen137 (P := fun W => K _ W) (fun W' hs hba => ?_)
    have HFq3 := Ja38_.mk (HFq2.out.on hba)
    have BPq3 := Ja38_.mk (Ja47_ BPq2.out hba)
    have HBq3 := Ja38_.mk (Ja44_ HBq2.out hba)
    have BSq3 := Ja38_.mk hs
    have GE := Ja38_.mk (Ja45_ HBq2.out)
    clear hs hba
    refine hK.out _ _ ⟨(Ja39_ HFq3.out.blk 0).trans (show _ = some _ from rfl), (Ja39_ HFq3.out.blk 1).trans (show _ = some _ from rfl), (Ja39_ HFq3.out.blk 2).trans (show _ = some _ from rfl), (Ja39_ BPq3.out 8).trans (show _ = some _ from rfl), (Ja39_ BPq3.out 9).trans (show _ = some _ from rfl)⟩ (fun hHeld => ?_)
    clear hK K
    refine norm_ (a' := ?_) ?_ ?_
    rotate_left
    ·show Act.put _ (some 6) _ = _
     simp only [Act.put, sA_, sB_, sC_, i64_w, i32_w]
     rfl
    exact norm_ (by first | (simp only [putAll, Act.put, sA_, sB_, sC_]; done) | (simp only [putAll, Act.put, sA_, sB_, sC_]; rfl)) (hJ _ _ ⟨hHeld, HFq3.out, BPq3.out, BSq3.out, HBq3.out, GE.out⟩)
   ·skip
    refine value_ (w1 := ?_) (v := ?_) (by rfl) rfl ?_ ?_
    rotate_left 2
    ·go_simp
     constructor
     ·rfl
     ·rfl
    refine alloc_gen137 (P := fun W => K _ W) (fun W' hs hba => ?_)
    have HFq4 := Ja38_.mk (HFq1.out.on hba)
    have BPq4 := Ja38_.mk (Ja47_ BPq1.out hba)
    have HBq4 := Ja38_.mk (Ja44_ HBq1.out hba)
    have BSq4 := Ja38_.mk hs
    have GE := Ja38_.mk (Ja45_ HBq1.out)
    clear hs hba
    refine hK.out _ _ ⟨(Ja39_ HFq4.out.blk 0).trans (show _ = some _ from rfl), (Ja39_ HFq4.out.blk 1).trans (show _ = some _ from rfl), (Ja39_ HFq4.out.blk 2).trans (show _ = some _ from rfl), (Ja39_ BPq4.out 8).trans (show _ = some _ from rfl), (Ja39_ BPq4.out 9).trans (show _ = some _ from rfl)⟩ (fun hHeld => ?_)
    clear hK K
    refine norm_ (a' := ?_) ?_ ?_
    rotate_left
    ·show Act.put _ (some 6) _ = _
     simp only [Act.put, sA_, sB_, sC_, i64_w, i32_w]
     rfl
    refine one_ (i := 23) (N := some 43) (bz_ 27 50331647) rfl rfl (one_of HT_.out (by kernel_rfl)) (by decide) (fun K hK => ?_)
    refine goes_ Try.func146 (by kernel_rfl) rfl #[.slice B3 t3.length d3] (by rfl) rfl rfl (by (try simp only [List.map_toArray, List.map_cons, List.map_nil]); first | done | rfl) ?_
    refine (J12_.calls k B3 d3 t3 jr _ (HT3.out _ (Fr.of_below (below_step0 HBd.out HBq4.out))) HL3.out HJS.out.2).mono ?_
    rintro e w' ⟨rfl, hb⟩
    refine ⟨_, rfl, ?_⟩
    have HFq5 := Ja38_.mk (HFq4.out.on hb)
    have BPq5 := Ja38_.mk (Ja47_ BPq4.out hb)
    have HBq5 := Ja38_.mk (Ja44_ HBq4.out hb)
    have BSq5 := Ja38_.mk (Ja47_ BSq4.out hb)
    clear hb
    refine hK.out _ _ ⟨(Ja39_ HFq5.out.blk 0).trans (show _ = some _ from rfl), (Ja39_ HFq5.out.blk 1).trans (show _ = some _ from rfl), (Ja39_ HFq5.out.blk 2).trans (show _ = some _ from rfl), (Ja39_ BPq5.out 8).trans (show _ = some _ from rfl), (Ja39_ BPq5.out 9).trans (show _ = some _ from rfl)⟩ (fun hHeld => ?_)
    clear hK K
    refine norm_ (a' := ?_) ?_ ?_
    rotate_left
    ·show Act.put _ (some 43) _ = _
     simp only [Act.put, sA_, sB_, sC_, i64_w, i32_w]
     rfl
    refine pure_ (i := 24) (N := some 44) (v := ?_) (a' := ?_) (bz_ 27 67108863) rfl rfl (any_of HT_.out (by kernel_rfl)) (fun _ _ _ h => h) (Or.inl ⟨by rfl, ?_⟩) ?_ ?_
    rotate_left
    ·intro w'
     go_simp
     with_reducible rfl
    rotate_left
    ·simp only [Act.put, sA_, sB_, sC_, i64_w, i32_w]
     rfl
    exact norm_ (by first | (simp only [putAll, Act.put, sA_, sB_, sC_]; done) | (simp only [putAll, Act.put, sA_, sB_, sC_]; rfl)) (hJ _ _ ⟨hHeld, HFq5.out, BPq5.out, BSq5.out, HBq5.out, GE.out⟩)
  ·skip
   refine value_ (w1 := ?_) (v := ?_) (by rfl) rfl ?_ ?_
   rotate_left 2
   ·go_simp
    constructor
    ·rfl
    ·rfl
   refine alloc_gen137 (P := fun W => K _ W) (fun W' hs hba => ?_)
   have HFq6 := Ja38_.mk (HF0.out.on hba)
   have BPq6 := Ja38_.mk (Ja47_ BP0.out hba)
   have HBq6 := Ja38_.mk (Ja44_ HB0.out hba)
   have BSq6 := Ja38_.mk hs
   have GE := Ja38_.mk (Ja45_ HB0.out)
   clear hs hba
   refine hK.out _ _ ⟨(Ja39_ HFq6.out.blk 0).trans (show _ = some _ from rfl), (Ja39_ HFq6.out.blk 1).trans (show _ = some _ from rfl), (Ja39_ HFq6.out.blk 2).trans (show _ = some _ from rfl), (Ja39_ BPq6.out 8).trans (show _ = some _ from rfl), (Ja39_ BPq6.out 9).trans (show _ = some _ from rfl)⟩ (fun hHeld => ?_)
   clear hK K
   refine norm_ (a' := ?_) ?_ ?_
   rotate_left
   ·show Act.put _ (some 6) _ = _
    simp only [Act.put, sA_, sB_, sC_, i64_w, i32_w]
    rfl
   refine one_ (i := 13) (N := some 33) (bz_ 27 41943039) rfl rfl (one_of HT_.out (by kernel_rfl)) (by decide) (fun K hK => ?_)
   refine goes_ Try.func146 (by kernel_rfl) rfl #[.slice B2 t2.length d2] (by rfl) rfl rfl (by (try simp only [List.map_toArray, List.map_cons, List.map_nil]); first | done | rfl) ?_
   refine (J12_.calls k B2 d2 t2 jl _ (HT2.out _ (Fr.of_below (below_step0 HBd.out HBq6.out))) HL2.out HJS.out.1).mono ?_
   rintro e w' ⟨rfl, hb⟩
   refine ⟨_, rfl, ?_⟩
   have HFq7 := Ja38_.mk (HFq6.out.on hb)
   have BPq7 := Ja38_.mk (Ja47_ BPq6.out hb)
   have HBq7 := Ja38_.mk (Ja44_ HBq6.out hb)
   have BSq7 := Ja38_.mk (Ja47_ BSq6.out hb)
   clear hb
   refine hK.out _ _ ⟨(Ja39_ HFq7.out.blk 0).trans (show _ = some _ from rfl), (Ja39_ HFq7.out.blk 1).trans (show _ = some _ from rfl), (Ja39_ HFq7.out.blk 2).trans (show _ = some _ from rfl), (Ja39_ BPq7.out 8).trans (show _ = some _ from rfl), (Ja39_ BPq7.out 9).trans (show _ = some _ from rfl)⟩ (fun hHeld => ?_)
   clear hK K
   refine norm_ (a' := ?_) ?_ ?_
   rotate_left
   ·show Act.put _ (some 33) _ = _
    simp only [Act.put, sA_, sB_, sC_, i64_w, i32_w]
    rfl
   refine one_ (i := 23) (N := some 43) (bz_ 27 50331647) rfl rfl (one_of HT_.out (by kernel_rfl)) (by decide) (fun K hK => ?_)
   refine goes_ Try.func146 (by kernel_rfl) rfl #[.slice B3 t3.length d3] (by rfl) rfl rfl (by (try simp only [List.map_toArray, List.map_cons, List.map_nil]); first | done | rfl) ?_
   refine (J12_.calls k B3 d3 t3 jr _ (HT3.out _ (Fr.of_below (below_step0 HBd.out HBq7.out))) HL3.out HJS.out.2).mono ?_
   rintro e w' ⟨rfl, hb⟩
   refine ⟨_, rfl, ?_⟩
   have HFq8 := Ja38_.mk (HFq7.out.on hb)
   have BPq8 := Ja38_.mk (Ja47_ BPq7.out hb)
   have HBq8 := Ja38_.mk (Ja44_ HBq7.out hb)
   have BSq8 := Ja38_.mk (Ja47_ BSq7.out hb)
   clear hb
   refine hK.out _ _ ⟨(Ja39_ HFq8.out.blk 0).trans (show _ = some _ from rfl), (Ja39_ HFq8.out.blk 1).trans (show _ = some _ from rfl), (Ja39_ HFq8.out.blk 2).trans (show _ = some _ from rfl), (Ja39_ BPq8.out 8).trans (show _ = some _ from rfl), (Ja39_ BPq8.out 9).trans (show _ = some _ from rfl)⟩ (fun hHeld => ?_)
   clear hK K
   refine norm_ (a' := ?_) ?_ ?_
   rotate_left
   ·show Act.put _ (some 43) _ = _
    simp only [Act.put, sA_, sB_, sC_, i64_w, i32_w]
    rfl
   refine pure_ (i := 24) (N := some 44) (v := ?_) (a' := ?_) (bz_ 27 67108863) rfl rfl (any_of HT_.out (by kernel_rfl)) (fun _ _ _ h => h) (Or.inl ⟨by rfl, ?_⟩) ?_ ?_
   rotate_left
   ·intro w'
    go_simp
    with_reducible rfl
   rotate_left
   ·simp only [Act.put, sA_, sB_, sC_, i64_w, i32_w]
    rfl
   exact norm_ (by first | (simp only [putAll, Act.put, sA_, sB_, sC_]; done) | (simp only [putAll, Act.put, sA_, sB_, sC_]; rfl)) (hJ _ _ ⟨hHeld, HFq8.out, BPq8.out, BSq8.out, HBq8.out, GE.out⟩)
 rintro s4 w4 ⟨hHeld, hf, hbp, hbs, hb, hge⟩
 have HF4 := Ja38_.mk hf
 have BP4 := Ja38_.mk hbp
 have BS4 := Ja38_.mk hbs
 have HB4 := Ja38_.mk hb
 have GE4 := Ja38_.mk hge
 clear hf hbp hbs hb hge HB0 HF0 BP0
 refine norm_ (a' := ?_) ?_ ?_
 rotate_left
 ·simp only [putAll, Act.put, sA_, sB_, sC_]
  rfl
 have hz0 := Ja40_ BS4.out 0
 have hy0 := (Ja39_ BS4.out 0).trans (show _ = some _ from rfl)
 have hz0 := Ja40_ BS4.out 0
 have hy1 := (Ja39_ BS4.out 1).trans (show _ = some _ from rfl)
 have hz1 := Ja40_ BS4.out 1
 have hy2 := (Ja39_ BS4.out 2).trans (show _ = some _ from rfl)
 have hz2 := Ja40_ BS4.out 2
 have hy3 := (Ja39_ BS4.out 3).trans (show _ = some _ from rfl)
 have hz3 := Ja40_ BS4.out 3
 have hy4 := (Ja39_ BS4.out 4).trans (show _ = some _ from rfl)
 have hz4 := Ja40_ BS4.out 4
 have hy5 := (Ja39_ BS4.out 5).trans (show _ = some _ from rfl)
 have hz5 := Ja40_ BS4.out 5
 have hy6 := (Ja39_ BS4.out 6).trans (show _ = some _ from rfl)
 have hz6 := Ja40_ BS4.out 6
 have hy7 := (Ja39_ BS4.out 7).trans (show _ = some _ from rfl)
 have hz7 := Ja40_ BS4.out 7
 have hy8 := (Ja39_ BS4.out 8).trans (show _ = some _ from rfl)
 have hz8 := Ja40_ BS4.out 8
 refine last_ (i := 26) (N := none) (bz_ 27 134217727) rfl rfl (one_of HT_.out (by kernel_rfl)) (by decide) (fun K hK => ?_)
 refine skip_ (w1 := ?_) (by rfl) rfl ?_ ?_
 rotate_left
 ·go_simp
  rfl
 refine hK.out _ _ ?_
 clear hK K
 refine done_ (done_of HT_.out (by kernel_rfl)) ?_
 clear hHeld hy0 hz0 hy1 hz1 hy2 hz2 hy3 hz3 hy4 hz4 hy5 hz5 hy6 hz6 hy7 hz7 hy8 hz8
 have hlt4 := blk_lt BS4.out
 have hpb : w.heap.size < s4 := Nat.lt_of_lt_of_le (blk_lt BPd.out) GE4.out
 have hgp : g < w.heap.size := blk_lt HF.out.blk
 have hgb : g < s4 := Nat.lt_of_lt_of_le (blk_lt HFd.out.blk) GE4.out
 have HX4 := Ja38_.mk (HFd.out.shrink HB4.out s4 GE4.out hlt4)
 have HFr := Ja38_.mk (Fr.of_below (ok := ok) (g := g) (Ja44_ HBd.out HB4.out))
 have hge0 : w0.heap.size ≤ s4 := Nat.le_trans HF.out.below.size (Nat.le_of_lt hpb)
 have HF5 := Ja38_.mk (Bld.far (p := ⟨s4, 8, none⟩) (Bld.far (p := ⟨s4, 7, none⟩) (Bld.far (p := ⟨s4, 6, none⟩) (Bld.far (p := ⟨s4, 5, none⟩) (Bld.far (p := ⟨s4, 4, none⟩) (Bld.far (p := ⟨s4, 3, none⟩) (Bld.far (p := ⟨s4, 2, none⟩) (Bld.far (p := ⟨s4, 1, none⟩) (Bld.far (p := ⟨s4, 0, none⟩) HX4.out (.string lb.f0) (fun e => e.2 rfl) (Nat.ne_of_lt hgb) hge0) (.string lb.f1) (fun e => e.2 rfl) (Nat.ne_of_lt hgb) hge0) (.string lb.f2) (fun e => e.2 rfl) (Nat.ne_of_lt hgb) hge0) (.bool true) (fun e => e.2 rfl) (Nat.ne_of_lt hgb) hge0) (.string ⟨#[]⟩) (fun e => e.2 rfl) (Nat.ne_of_lt hgb) hge0) (.string jl) (fun e => e.2 rfl) (Nat.ne_of_lt hgb) hge0) (.string ⟨#[]⟩) (fun e => e.2 rfl) (Nat.ne_of_lt hgb) hge0) (.string jr) (fun e => e.2 rfl) (Nat.ne_of_lt hgb) hge0) (.bool false) (fun e => e.2 rfl) (Nat.ne_of_lt hgb) hge0)
 have BS5 := Ja38_.mk (fill9 BS4.out (.string lb.f0) (.string lb.f1) (.string lb.f2) (.bool true) (.string ⟨#[]⟩) (.string jl) (.string ⟨#[]⟩) (.string jr) (.bool false))
 have BP5 := Ja38_.mk (blk_far (p := ⟨s4, 8, none⟩) (blk_far (p := ⟨s4, 7, none⟩) (blk_far (p := ⟨s4, 6, none⟩) (blk_far (p := ⟨s4, 5, none⟩) (blk_far (p := ⟨s4, 4, none⟩) (blk_far (p := ⟨s4, 3, none⟩) (blk_far (p := ⟨s4, 2, none⟩) (blk_far (p := ⟨s4, 1, none⟩) (blk_far (p := ⟨s4, 0, none⟩) BP4.out (Nat.ne_of_lt hpb) (.string lb.f0)) (Nat.ne_of_lt hpb) (.string lb.f1)) (Nat.ne_of_lt hpb) (.string lb.f2)) (Nat.ne_of_lt hpb) (.bool true)) (Nat.ne_of_lt hpb) (.string ⟨#[]⟩)) (Nat.ne_of_lt hpb) (.string jl)) (Nat.ne_of_lt hpb) (.string ⟨#[]⟩)) (Nat.ne_of_lt hpb) (.string jr)) (Nat.ne_of_lt hpb) (.bool false))
 have HR5 := Ja38_.mk (Fr.set (p := ⟨s4, 8, none⟩) (Fr.set (p := ⟨s4, 7, none⟩) (Fr.set (p := ⟨s4, 6, none⟩) (Fr.set (p := ⟨s4, 5, none⟩) (Fr.set (p := ⟨s4, 4, none⟩) (Fr.set (p := ⟨s4, 3, none⟩) (Fr.set (p := ⟨s4, 2, none⟩) (Fr.set (p := ⟨s4, 1, none⟩) (Fr.set (p := ⟨s4, 0, none⟩) HFr.out (.string lb.f0) (Nat.le_of_lt hpb)) (.string lb.f1) (Nat.le_of_lt hpb)) (.string lb.f2) (Nat.le_of_lt hpb)) (.bool true) (Nat.le_of_lt hpb)) (.string ⟨#[]⟩) (Nat.le_of_lt hpb)) (.string jl) (Nat.le_of_lt hpb)) (.string ⟨#[]⟩) (Nat.le_of_lt hpb)) (.string jr) (Nat.le_of_lt hpb)) (.bool false) (Nat.le_of_lt hpb))
 clear HX4 HFr BS4 BP4 HF4 HB4
 generalize (((((((((w4.setCell ⟨s4, 0, none⟩ (.string lb.f0)).setCell ⟨s4, 1, none⟩ (.string lb.f1)).setCell ⟨s4, 2, none⟩ (.string lb.f2)).setCell ⟨s4, 3, none⟩ (.bool true)).setCell ⟨s4, 4, none⟩ (.string ⟨#[]⟩)).setCell ⟨s4, 5, none⟩ (.string jl)).setCell ⟨s4, 6, none⟩ (.string ⟨#[]⟩)).setCell ⟨s4, 7, none⟩ (.string jr)).setCell ⟨s4, 8, none⟩ (.bool false)) = w5 at HF5 BS5 BP5 HR5 ⊢
 have hlb5 : Below w.heap.size w5 w5 := Below.refl _ _
 have hst := (Ja39_ HF5.out.blk 3).trans (show _ = some (Value.int .i64 style) from rfl)
 have hp1 := (Ja39_ BP5.out 7).trans (show _ = some (Value.slice A1 b1.length c1) from rfl)
 go_wp2_with fail
 refine (J12_.calls k A1 c1 b1 jb w5 (H1.out _ HR5.out) hc1 HJ.out.1).mono ?_
 rintro e w6 ⟨rfl, hb⟩
 have HF6 := Ja38_.mk (HF5.out.on hb)
 have BS6 := Ja38_.mk (Ja47_ BS5.out hb)
 have BP6 := Ja38_.mk (Ja47_ BP5.out hb)
 have HR6 := Ja38_.mk (HR5.out.trans (Fr.of_below hb))
 clear hb HF5 BS5 BP5 HR5 hst hp1 hlb5
 have hy8 := (Ja39_ BS6.out 8).trans (show _ = some (Value.bool false) from rfl)
 have hy6 := (Ja39_ BS6.out 6).trans (show _ = some (Value.string ⟨#[]⟩) from rfl)
 have hz8 := Ja40_ BS6.out 8
 have hz6 := Ja40_ BS6.out 6
 have hp2 := (Ja39_ BP6.out 8).trans (show _ = some (Value.slice A2 b2.length c2) from rfl)
 go_wp2_with fail
 clear hy8 hy6 hz8 hz6 hp2
 have HF7 := Ja38_.mk (Bld.far (p := ⟨s4, 6, none⟩) (Bld.far (p := ⟨s4, 8, none⟩) HF6.out (.bool true) (fun e => e.2 rfl) (Nat.ne_of_lt hgb) hge0) (.string jb) (fun e => e.2 rfl) (Nat.ne_of_lt hgb) hge0)
 have BS7 : Ja38_ (((w6.setCell ⟨s4, 8, none⟩ (.bool true)).setCell ⟨s4, 6, none⟩ (.string jb)).heap[s4]? = some (.cells #[.string lb.f0, .string lb.f1, .string lb.f2, .bool true, .string ⟨#[]⟩, .string jl, .string jb, .string jr, .bool true] 120 (0, 0))) := ⟨fill2 BS6.out (.bool true) (.string jb)⟩
 have BP7 := Ja38_.mk (blk_far (p := ⟨s4, 6, none⟩) (blk_far (p := ⟨s4, 8, none⟩) BP6.out (Nat.ne_of_lt hpb) (.bool true)) (Nat.ne_of_lt hpb) (.string jb))
 have HR7 := Ja38_.mk (Fr.set (p := ⟨s4, 6, none⟩) (Fr.set (p := ⟨s4, 8, none⟩) HR6.out (.bool true) (Nat.le_of_lt hpb)) (.string jb) (Nat.le_of_lt hpb))
 clear HF6 BS6 BP6 HR6
 generalize ((w6.setCell ⟨s4, 8, none⟩ (.bool true)).setCell ⟨s4, 6, none⟩ (.string jb)) = w7 at HF7 BS7 BP7 HR7 ⊢
 refine (J6_.calls k g _ v lb style favour l A2 c2 t4 s1 w0 w7 HF7.out (HT4.out _ HR7.out) HL4.out (by have := HLL.out; omega) HJ.out.2.1).mono ?_
 rintro e w8 ⟨rfl, ⟨v8, hW⟩, hfr⟩
 have HF8 := Ja38_.mk hW
 have BS8 := Ja38_.mk ((hfr.2 _ (blk_lt BS7.out) (fun e => e.2 rfl) (Nat.ne_of_gt hgb)).trans BS7.out)
 have BP8 := Ja38_.mk ((hfr.2 _ (blk_lt BP7.out) (fun e => e.1.2 rfl) (Nat.ne_of_gt hgp)).trans BP7.out)
 have HR8 := Ja38_.mk (HR7.out.trans (hfr.mono (fun k e => e.1.1)))
 clear hW hfr HF7 BS7 BP7 HR7
 obtain ⟨A7, n7, c7, rfl⟩ : ∃ A n c, v8 = Value.slice A n c := by obtain ⟨A, c, h⟩ := Kd.R_slice HF8.out.own; exact ⟨A, _, c, h⟩
 have hv5 := (Ja39_ HF8.out.blk 5).trans (show _ = some (Value.slice A7 n7 c7) from rfl)
 go_wp2_with fail
 refine start_ (n := 11) (S := fun w' => w'.cell? ⟨g, 5, none⟩ = some (.slice A7 n7 c7) ∧ w'.cell? ⟨s4, 0, none⟩ = some (.string lb.f0) ∧ w'.cell? ⟨s4, 1, none⟩ = some (.string lb.f1) ∧ w'.cell? ⟨s4, 2, none⟩ = some (.string lb.f2) ∧ w'.cell? ⟨s4, 3, none⟩ = some (.bool true) ∧ w'.cell? ⟨s4, 4, none⟩ = some (.string ⟨#[]⟩) ∧ w'.cell? ⟨s4, 5, none⟩ = some (.string jl) ∧ w'.cell? ⟨s4, 6, none⟩ = some (.string jb) ∧ w'.cell? ⟨s4, 7, none⟩ = some (.string jr) ∧ w'.cell? ⟨s4, 8, none⟩ = some (.bool true)) (ds := [10]) (bz_ 11 0) (by kernel_rfl) rfl rfl ⟨(Ja39_ HF8.out.blk 5).trans (show _ = some _ from rfl), (Ja39_ BS8.out 0).trans (show _ = some _ from rfl), (Ja39_ BS8.out 1).trans (show _ = some _ from rfl), (Ja39_ BS8.out 2).trans (show _ = some _ from rfl), (Ja39_ BS8.out 3).trans (show _ = some _ from rfl), (Ja39_ BS8.out 4).trans (show _ = some _ from rfl), (Ja39_ BS8.out 5).trans (show _ = some _ from rfl), (Ja39_ BS8.out 6).trans (show _ = some _ from rfl), (Ja39_ BS8.out 7).trans (show _ = some _ from rfl), (Ja39_ BS8.out 8).trans (show _ = some _ from rfl)⟩ (fun hHeld => ?_); refine with_tabW J4_.tab9 J4_.bits9 (fun HT_ HW_ => ?_)
 have HFa := Ja38_.mk HF8.out.drew
 have BSa := Ja38_.mk (Ja49_ BS8.out)
 have BPa := Ja38_.mk (Ja49_ BP8.out)
 have HRa := Ja38_.mk (HR8.out.trans (Fr.of_below (Ja42_ (Below.refl _ _))))
 clear hv5 HF8 BS8 BP8 HR8
 generalize w8.drew = wa at HFa BSa BPa HRa hHeld ⊢
 refine pure_ (i := 0) (N := some 63) (v := ?_) (a' := ?_) (bz_ 11 1) rfl rfl (any_of HT_.out (by kernel_rfl)) (fun _ _ _ h => h) (Or.inl ⟨by rfl, ?_⟩) ?_ ?_
 rotate_left
 ·intro w'
  go_simp
  with_reducible rfl
 rotate_left
 ·simp only [Act.put, sA_, sB_, sC_, i64_w, i32_w]
  rfl
 refine pure_ (i := 1) (N := some 64) (v := ?_) (a' := ?_) (bz_ 11 3) rfl rfl (any_of HT_.out (by kernel_rfl)) (fun _ _ _ h => h) (Or.inl ⟨by rfl, ?_⟩) ?_ ?_
 rotate_left
 ·intro w'
  go_simp
  with_reducible rfl
 rotate_left
 ·simp only [Act.put, sA_, sB_, sC_, i64_w, i32_w]
  rfl
 refine pure_ (i := 2) (N := some 65) (v := ?_) (a' := ?_) (bz_ 11 7) rfl rfl (any_of HT_.out (by kernel_rfl)) (fun _ _ _ h => h) (Or.inl ⟨by rfl, ?_⟩) ?_ ?_
 rotate_left
 ·intro w'
  go_simp
  with_reducible rfl
 rotate_left
 ·simp only [Act.put, sA_, sB_, sC_, i64_w, i32_w]
  rfl
 refine pure_ (i := 3) (N := some 66) (v := ?_) (a' := ?_) (bz_ 11 15) rfl rfl (any_of HT_.out (by kernel_rfl)) (fun _ _ _ h => h) (Or.inl ⟨by rfl, ?_⟩) ?_ ?_
 rotate_left
 ·intro w'
  go_simp
  with_reducible rfl
 rotate_left
 ·simp only [Act.put, sA_, sB_, sC_, i64_w, i32_w]
  rfl
 refine take_ (i := 4) (N := some 67) (v := ?_) (a' := ?_) (bz_ 11 31) rfl rfl (Ja52_ HT_.out HW_.out (by kernel_rfl)) (fun _ _ _ h => h) (Or.inl ⟨by rfl, ?_⟩) hHeld ?_ ?_
 rotate_left
 ·rintro w' ⟨s0, s1_, s2, s3_, s4_, s5, s6, s7, s8, s9⟩
  go_simp
  with_reducible rfl
 rotate_left
 ·simp only [Act.put, sA_, sB_, sC_, i64_w, i32_w]
  rfl
 refine take_ (i := 5) (N := some 68) (v := ?_) (a' := ?_) (bz_ 11 63) rfl rfl (Ja52_ HT_.out HW_.out (by kernel_rfl)) (fun _ _ _ h => h) (Or.inl ⟨by rfl, ?_⟩) hHeld ?_ ?_
 rotate_left
 ·rintro w' ⟨s0, s1_, s2, s3_, s4_, s5, s6, s7, s8, s9⟩
  go_simp
  with_reducible rfl
 rotate_left
 ·simp only [Act.put, sA_, sB_, sC_, i64_w, i32_w]
  rfl
 refine one_ (i := 6) (N := some 69) (bz_ 11 127) rfl rfl (one_of HT_.out (by kernel_rfl)) (by decide) (fun K hK => ?_)
 refine value_ (w1 := ?_) (v := ?_) (by rfl) rfl ?_ ?_
 rotate_left 2
 ·go_simp
  constructor
  ·rfl
  ·rfl
 refine hK.out _ _ ⟨(Ja39_ (Ja48_ HFa.out.blk _) 5).trans (show _ = some _ from rfl), (Ja39_ (Ja48_ BSa.out _) 0).trans (show _ = some _ from rfl), (Ja39_ (Ja48_ BSa.out _) 1).trans (show _ = some _ from rfl), (Ja39_ (Ja48_ BSa.out _) 2).trans (show _ = some _ from rfl), (Ja39_ (Ja48_ BSa.out _) 3).trans (show _ = some _ from rfl), (Ja39_ (Ja48_ BSa.out _) 4).trans (show _ = some _ from rfl), (Ja39_ (Ja48_ BSa.out _) 5).trans (show _ = some _ from rfl), (Ja39_ (Ja48_ BSa.out _) 6).trans (show _ = some _ from rfl), (Ja39_ (Ja48_ BSa.out _) 7).trans (show _ = some _ from rfl), (Ja39_ (Ja48_ BSa.out _) 8).trans (show _ = some _ from rfl)⟩ (fun hHeld => ?_)
 clear hK K
 refine norm_ (a' := ?_) ?_ ?_
 rotate_left
 ·show Act.put _ (some 69) _ = _
  simp only [Act.put, sA_, sB_, sC_, i64_w, i32_w]
  rfl
 refine one_ (i := 7) (N := some 70) (bz_ 11 255) rfl rfl (one_of HT_.out (by kernel_rfl)) (by decide) (fun K hK => ?_)
 refine Kd.R_append_step k120 (w0 := w0) w0.heap.size (by rfl) (.tmp 67) (.tmp 69) 88 120 (.agg #[(.string ⟨#[]⟩), (.string ⟨#[]⟩), (.string ⟨#[]⟩), (.bool false), (.string ⟨#[]⟩), (.string ⟨#[]⟩), (.string ⟨#[]⟩), (.string ⟨#[]⟩), (.bool false)]) 128 rfl Try.underlying88 info120 rfl (by decide) (by decide) (.slice A7 n7 c7) (l ++ [textPart s1]) (⟨lb, true, ⟨#[]⟩, jl, jb, jr, true⟩ : S120) [.string lb.f0, .string lb.f1, .string lb.f2, .bool true, .string ⟨#[]⟩, .string jl, .string jb, .string jr, .bool true] (fun k => (ok k ∧ k ≠ w.heap.size) ∧ k ≠ s4) (fun _ => False) rfl rfl (k120_mkM _ _ _ (⟨lb, true, ⟨#[]⟩, jl, jb, jr, true⟩ : S120)) (fun _ hk => hk.elim) ?aF HFa.out.own HFa.out.below HFa.out.below.size ?aL ?_
 (case aF => exact fun k hk => HFa.out.fresh k hk)
 (case aL => have := HLL.out; simp only [List.length_append, List.length_cons, List.length_nil]; omega)
 intro v4 w9 ho hb hg hat
 have HO4 := Ja38_.mk ho
 have HB9 := Ja38_.mk hb
 have HG4 := Ja38_.mk hg
 have HK4 := Ja38_.mk (blk_grown HFa.out.blk hg (Kd.R_away HFa.out.own (fun _ hk e => HFa.out.nog (e ▸ hk))))
 have BS9 := Ja38_.mk (blk_grown BSa.out hg (Kd.R_away HFa.out.own (fun _ hk e => hk.2 e)))
 have BP9 := Ja38_.mk (blk_grown BPa.out hg (Kd.R_away HFa.out.own (fun _ hk e => hk.1.2 e)))
 clear ho hb hg hat
 obtain ⟨A4, n4, c4, rfl⟩ : ∃ A n c, v4 = Value.slice A n c := (by obtain ⟨A, c, h⟩ := Kd.R_slice HO4.out; exact ⟨A, _, c, h⟩)
 have hh3 := (Ja39_ HK4.out 5).trans (show _ = some (Value.slice A7 n7 c7) from rfl)
 have hh4 := Ja40_ HK4.out 5
 refine hK.out _ _ ⟨(Ja39_ HK4.out 5).trans (show _ = some _ from rfl), (Ja39_ BS9.out 0).trans (show _ = some _ from rfl), (Ja39_ BS9.out 1).trans (show _ = some _ from rfl), (Ja39_ BS9.out 2).trans (show _ = some _ from rfl), (Ja39_ BS9.out 3).trans (show _ = some _ from rfl), (Ja39_ BS9.out 4).trans (show _ = some _ from rfl), (Ja39_ BS9.out 5).trans (show _ = some _ from rfl), (Ja39_ BS9.out 6).trans (show _ = some _ from rfl), (Ja39_ BS9.out 7).trans (show _ = some _ from rfl), (Ja39_ BS9.out 8).trans (show _ = some _ from rfl)⟩ (fun hHeld => ?_)
 clear hK K
 refine norm_ (a' := ?_) ?_ ?_
 rotate_left
 ·show Act.put _ (some 70) _ = _
  simp only [Act.put, sA_, sB_, sC_, i64_w, i32_w]
  rfl
 refine pure_ (i := 8) (N := some 71) (v := ?_) (a' := ?_) (bz_ 11 511) rfl rfl (any_of HT_.out (by kernel_rfl)) (fun _ _ _ h => h) (Or.inl ⟨by rfl, ?_⟩) ?_ ?_
 rotate_left
 ·intro w'
  go_simp
  with_reducible rfl
 rotate_left
 ·simp only [Act.put, sA_, sB_, sC_, i64_w, i32_w]
  rfl
 refine pure_ (i := 9) (N := some 72) (v := ?_) (a' := ?_) (bz_ 11 1023) rfl rfl (any_of HT_.out (by kernel_rfl)) (fun _ _ _ h => h) (Or.inl ⟨by rfl, ?_⟩) ?_ ?_
 rotate_left
 ·intro w'
  go_simp
  with_reducible rfl
 rotate_left
 ·simp only [Act.put, sA_, sB_, sC_, i64_w, i32_w]
  rfl
 refine last_ (i := 10) (N := none) (bz_ 11 2047) rfl rfl (one_of HT_.out (by kernel_rfl)) (by decide) (fun K hK => ?_)
 refine skip_ (w1 := ?_) (by rfl) rfl ?_ ?_
 rotate_left
 ·go_simp
  rfl
 refine hK.out _ _ ?_
 clear hK K hh3 hh4 hHeld
 refine done_ (done_of HT_.out (by kernel_rfl)) ?_
 have HFb : Ja38_ (Bld w0 (w9.setCell ⟨g, 5, none⟩ (.slice A4 n4 c4)) g (fun k => (ok k ∧ k ≠ w.heap.size) ∧ k ≠ s4) (.slice A4 n4 c4) lb style favour ((l ++ [textPart s1]) ++ [(⟨lb, true, ⟨#[]⟩, jl, jb, jr, true⟩ : S120)])) := ⟨⟨HB9.out.setCell HFa.out.ge _, HFa.out.ge, blk_put HK4.out 5 _ rfl, Kd.R_far HO4.out (p := ⟨g, 5, none⟩) (fun k hk e => HFa.out.nog (by have e2 : k = g := e; rw [← e2]; exact hk)) _, HFa.out.nog, fun k hk => HFa.out.fresh k (by rw [size_set136] at hk; exact Nat.le_trans HG4.out.size hk)⟩⟩
 have BPb := Ja38_.mk (blk_far (p := ⟨g, 5, none⟩) BP9.out (Nat.ne_of_gt hgp) (.slice A4 n4 c4))
 have HRb : Ja38_ (Fr ok g w (w9.setCell ⟨g, 5, none⟩ (.slice A4 n4 c4))) := ⟨HRa.out.trans ⟨by rw [size_set136]; exact HG4.out.size, fun k hk hnk hkg => by rw [Below.heap_setCell w9 ⟨g, 5, none⟩ _ k hkg, HG4.out.block k hk (Kd.R_away HFa.out.own (fun j hj e => hnk (e ▸ hj.1.1)))]⟩⟩
 clear HFa BSa BPa HRa HO4 HB9 HG4 HK4 BS9 BP9 HT_ HW_
 generalize w9.setCell ⟨g, 5, none⟩ (.slice A4 n4 c4) = wb at HFb BPb HRb ⊢
 have hp2 := (Ja39_ BPb.out 8).trans (show _ = some (Value.slice A2 b2.length c2) from rfl)
 go_wp2_with fail
 refine (J6_.calls k g _ _ lb style favour _ B5 d5 t5 s3 w0 wb HFb.out (HT5.out _ HRb.out) HL5.out (by have := HLL.out; simp only [List.length_append, List.length_cons, List.length_nil]; omega) HJ.out.2.2).mono ?_
 rintro e wc ⟨rfl, ⟨vc, hW⟩, hfr⟩
 clear hp2
 try go_wp2
 go_end0
 have hun : hunk lb style jb jl jr = ⟨lb, true, ⟨#[]⟩, jl, jb, jr, true⟩ := if_neg (by omega)
 rw [hun]
 refine ⟨rfl, ⟨vc, ?_⟩, HRb.out.trans (hfr.mono (fun k e => e.1.1))⟩
 have hW2 := hW.widen (ok := ok) (fun k e => e.1.1) HF.out.nog
 simpa only [List.append_assoc, List.cons_append, List.nil_append] using hW2
end Go.Proofs.Ytadafplbgophfaa.PA
end
section
namespace Go.Proofs.Ytadafplbgophfaa.PA
set_option linter.unusedSimpArgs false
set_option linter.unusedVariables false
open Go.RowKit Go.Proofs.YtadafplbgophfaaW.PrintWords Go.Proofs.YtadafplbgophfaaW.PrintLast Go.Proofs.YtadafplbgophfaaW.PrintMore
theorem F_on {α : Type} {d : Kd α} {w w1 : World} {ok : Nat → Prop} {A : Option Addr} {n : Nat} {xs : List α} (h : Kd.F d w ok A n xs) (hb : Below w.heap.size w w1) : Kd.F d w1 ok A n xs := Kd.F_mono (Kd.F_old h hb) (fun _ hk => hk.1)
set_option maxHeartbeats 8000000 in
set_option maxRecDepth 100000 in
theorem J5_.calls (k : Nat) (g : Nat) (ok : Nat → Prop) (v : Value) (lb : S116) (style favour : Int) (l : List S120) (st : Bool) (i0 i1 i2 i3 i4 i5 : Int) (cls : Int)
    (A1 : Option Addr) (c1 : Nat) (b1 : List ByteArray) (A2 : Option Addr) (c2 : Nat) (b2 : List ByteArray) (A3 : Option Addr) (c3 : Nat) (b3 : List ByteArray) (w0 w : World) (hF : Bld w0 w g ok v lb style favour l)
    (hr1 : Kd.F Kd.string w (fun k => ¬ ok k ∧ k ≠ g) A1 b1.length b1) (hc1 : b1.length ≤ c1) (hr2 : Kd.F Kd.string w (fun k => ¬ ok k ∧ k ≠ g) A2 b2.length b2) (hc2 : b2.length ≤ c2) (hr3 : Kd.F Kd.string w (fun k => ¬ ok k ∧ k ≠ g) A3 b3.length b3) (hc3 : b3.length ≤ c3)
    (n m : Int) (h2 : style = 2) (h4 : cls = 4) (h0 : favour = 0) (hn : J3_.f k b2 b3 = some (n, m)) (hn0 : 0 ≤ n) (hm0 : 0 ≤ m) (hnm : n + m ≤ b2.length) (hnm3 : n + m ≤ b3.length) (hl : l.length ≤ 900000000)
    (jb jl jr s1 s3 : ByteArray) (hjb : J12_.f k b1 = some jb) (hjl : J12_.f k ((b2.take ((b2.length : Int) - m).toNat).drop n.toNat) = some jl) (hjr : J12_.f k ((b3.take ((b3.length : Int) - m).toNat).drop n.toNat) = some jr)
    (hs1 : J12_.f k (b2.take n.toNat) = some s1) (hs3 : J12_.f k (b2.drop ((b2.length : Int) - m).toNat) = some s3) :
    Calls Try.prog 119 #[.pointer (some ⟨g, 0, none⟩), .agg #[.bool st, .int .i64 i0, .int .i64 i1, .int .i64 i2, .int .i64 i3, .int .i64 i4, .int .i64 i5, .slice A1 b1.length c1, .slice A2 b2.length c2, .slice A3 b3.length c3, .int .i64 cls]] w fun e w' => e = .returned (.tuple #[]) ∧ (∃ v', Bld w0 w' g ok v' lb style favour (l ++ [textPart s1, hunk lb style jb jl jr, textPart s3])) ∧ Fr ok g w w' := by
  have HF := Ja38_.mk hF
  have H1 := Ja38_.mk hr1
  have H2 := Ja38_.mk hr2
  have H3 := Ja38_.mk hr3
  have HALL := Ja38_.mk (And.intro hjb (And.intro hjl (And.intro hjr (And.intro hs1 hs3))))
  have HNM := Ja38_.mk (And.intro hn (And.intro hn0 (And.intro hm0 (And.intro hnm (And.intro hnm3 hl)))))
  have HC := Ja38_.mk (And.intro hc1 (And.intro hc2 hc3))
  clear hF hr1 hr2 hr3 hjb hjl hjr hs1 hs3 hn hn0 hm0 hnm hnm3 hl hc1 hc2 hc3
  have hu181 := Try.underlying181
  have hu184 := Try.underlying184
  subst h4
  subst h0
  go_enter Try.func119, Try.ntmps119
  go_wp2_with (first | ((with_reducible refine gate_dst (N := 3) rfl ?_); refine box_event ?hg (N := 3) ?hd (cs := #[.bool st, .int .i64 i0, .int .i64 i1, .int .i64 i2, .int .i64 i3, .int .i64 i4, .int .i64 i5, .slice A1 b1.length c1, .slice A2 b2.length c2, .slice A3 b3.length c3, .int .i64 4]) (t := 184) ?hr ?_; (case hd => rfl); (case hg => rfl); (case hr => first | (go_simp; done) | (go_simp; rfl)); intro g0 hg w1 hbox hb; subst hg; have HF1 := Ja38_.mk (HF.out.on hb); have hfa := (Ja39_ HF1.out.blk 4).trans (show _ = some (Value.int .i64 0) from rfl); have q0 := (Ja39_ hbox 0).trans (show _ = some (Value.bool st) from rfl); have q1 := (Ja39_ hbox 1).trans (show _ = some (Value.int .i64 i0) from rfl); have q2 := (Ja39_ hbox 2).trans (show _ = some (Value.int .i64 i1) from rfl); have q3 := (Ja39_ hbox 3).trans (show _ = some (Value.int .i64 i2) from rfl); have q4 := (Ja39_ hbox 4).trans (show _ = some (Value.int .i64 i3) from rfl); have q5 := (Ja39_ hbox 5).trans (show _ = some (Value.int .i64 i4) from rfl); have q6 := (Ja39_ hbox 6).trans (show _ = some (Value.int .i64 i5) from rfl); have q7 := (Ja39_ hbox 7).trans (show _ = some (Value.slice A1 b1.length c1) from rfl); have q8 := (Ja39_ hbox 8).trans (show _ = some (Value.slice A2 b2.length c2) from rfl); have q9 := (Ja39_ hbox 9).trans (show _ = some (Value.slice A3 b3.length c3) from rfl); have q10 := (Ja39_ hbox 10).trans (show _ = some (Value.int .i64 4) from rfl); have HB1 := Ja38_.mk hb; clear hbox hb))
  obtain ⟨a1, a2, a3, a4, a5, a6⟩ := HNM.out
  obtain ⟨b1', b2', b3', b4', b5'⟩ := HALL.out
  refine (J4_.calls k g ok v lb style 0 l st i0 i1 i2 i3 i4 i5 4 A1 c1 b1 A2 c2 b2 A3 c3 b3 w0 w1 HF1.out (F_on H1.out HB1.out) HC.out.1 (F_on H2.out HB1.out) HC.out.2.1 (F_on H3.out HB1.out) HC.out.2.2 n m h2 a1 a2 a3 a4 a5 a6 jb jl jr s1 s3 b1' b2' b3' b4' b5').mono ?_
  rintro e w2 ⟨rfl, hE, hfr⟩
  have HE := Ja38_.mk hE
  have HR := Ja38_.mk hfr
  clear hE hfr
  try go_wp2
  go_end0
  exact ⟨rfl, HE.out, (Fr.of_below HB1.out).trans HR.out⟩
end Go.Proofs.Ytadafplbgophfaa.PA
end
section
namespace Go.Proofs.Ytadafplbgophfaa.PA
open Go.RowKit Go.Proofs.YtadafplbgophfaaW.PrintWords Go.Proofs.YtadafplbgophfaaW.PrintLast Go.Proofs.YtadafplbgophfaaW.PrintMore
attribute [local go_sem] max2_int min2_int max_two min_two max_three min_three max_four min_four   -- for this text's walks alone
set_option linter.unusedVariables false
set_option linter.unusedSimpArgs false
def J10_.f (k : Nat) (a0_0 : ByteArray) (a0_1 : ByteArray) (a0_2 : ByteArray) : Option (Bool) := if a0_0.size + a0_1.size ≤ 9223372036854775807 then (if (a0_0 ++ a0_1).size + a0_2.size ≤ 9223372036854775807 then ((J15_.f k ((a0_0 ++ a0_1) ++ a0_2) (⟨#[10]⟩ : ByteArray)).bind fun t102 => (some (!t102))) else (none)) else (none)
set_option maxHeartbeats 8000000 in
set_option maxRecDepth 100000 in
theorem J10_.calls (k : Nat) (a0_0 : ByteArray) (a0_1 : ByteArray) (a0_2 : ByteArray) (r : Bool) (w : World) (h : J10_.f k a0_0 a0_1 a0_2 = some r) :
  Calls Try.prog 116 #[.agg #[.string a0_0, .string a0_1, .string a0_2]] w fun e w' => e = .returned (.bool r) ∧ Below w.heap.size w w' := by
 have hu116 := Try.underlying116
 have HB := Ja38_.mk (Below.refl w.heap.size w)
 have H : (if a0_0.size + a0_1.size ≤ 9223372036854775807 then (if (a0_0 ++ a0_1).size + a0_2.size ≤ 9223372036854775807 then ((J15_.f k ((a0_0 ++ a0_1) ++ a0_2) (⟨#[10]⟩ : ByteArray)).bind fun t102 => (some (!t102))) else (none)) else (none)) = some r := h
 clear h
 by_cases c2 : a0_0.size + a0_1.size ≤ 9223372036854775807
 ·rw [if_pos c2] at H
  have c2b0 := eq_true c2
  have c2b1 : decide (a0_0.size + a0_1.size ≤ 9223372036854775807) = true := decide_eq_true c2
  try have c2b2 : (9223372036854775807 < a0_0.size + a0_1.size) = False := eq_false (Nat.not_lt.2 c2)
  by_cases c3 : (a0_0 ++ a0_1).size + a0_2.size ≤ 9223372036854775807
  ·rw [if_pos c3] at H
   have c3b0 := eq_true c3
   have c3b1 : decide ((a0_0 ++ a0_1).size + a0_2.size ≤ 9223372036854775807) = true := decide_eq_true c3
   try have c3b2 : (9223372036854775807 < (a0_0 ++ a0_1).size + a0_2.size) = False := eq_false (Nat.not_lt.2 c3)
   replace H := Option.bind_eq_some_iff.mp H
   obtain ⟨t102, A40, H⟩ := H
   replace H : (some (!t102)) = some r := H
   have A4 := Ja38_.mk A40
   clear A40
   obtain rfl := Option.some.inj H
   go_enter Try.func116, Try.ntmps116
   go_wp2_with (first | ((with_reducible refine gate_dst (N := 1) rfl ?_); refine box_event ?hg (N := 1) ?hd (cs := #[.string a0_0, .string a0_1, .string a0_2]) (t := 116) ?hr ?_; (case hd => rfl); (case hg => rfl); (case hr => first | (go_simp; done) | (go_simp; rfl)); intro gb101 hg w5 hbox hb; have n0_ := Ja38_.mk (Ja44_ (by repeat (first | (with_reducible first | exact HB.out | apply Ja43_ | apply Ja41_ | apply Ja42_) | exact HB.out)) hb); have n1_ := Ja38_.mk (hbox); have n2_ := Ja38_.mk ((by rw [hg]; exact (Ja45_ (by repeat (first | (with_reducible first | exact HB.out | apply Ja43_ | apply Ja41_ | apply Ja42_) | exact HB.out))) : w.heap.size ≤ gb101)); have n3_ := Ja38_.mk ((by rw [hg]; exact (Ja45_ (by repeat (first | (with_reducible first | exact HB.out | apply Ja43_ | apply Ja41_ | apply Ja42_) | exact HB.out))) : w.heap.size ≤ gb101)); clear HB; have HB := n0_; have BK101 := n1_; have GW101 := n2_; have GE101 := n3_; clear n0_ n1_ n2_ n3_; clear hb hbox hg; have hcz6_0 : w5.cell? ⟨gb101, 0, none⟩ = some (.string a0_0) := (Ja39_ BK101.out 0).trans rfl; have hcz6_1 : w5.cell? ⟨gb101, 1, none⟩ = some (.string a0_1) := (Ja39_ BK101.out 1).trans rfl; have hcz6_2 : w5.cell? ⟨gb101, 2, none⟩ = some (.string a0_2) := (Ja39_ BK101.out 2).trans rfl; have hfz6_0 := Ja40_ BK101.out 0; have hfz6_1 := Ja40_ BK101.out 1; have hfz6_2 := Ja40_ BK101.out 2) | ((with_reducible refine gate_callee (f := 135) rfl ?_); refine goesL_ (some 11) rfl rfl Try.func135 (by kernel_rfl) rfl #[.string ((a0_0 ++ a0_1) ++ a0_2), .string (⟨#[10]⟩ : ByteArray)] rfl (by (try simp only [List.map_toArray, List.map_cons, List.map_nil]); first | done | rfl | (simp only [List.length_drop, List.length_take]; rfl)) ?_; (with_reducible refine (J15_.calls k ((a0_0 ++ a0_1) ++ a0_2) (⟨#[10]⟩ : ByteArray) t102 _ A4.out).mono ?_); rintro e w7 ⟨rfl, hb⟩; refine ⟨_, rfl, ?_⟩; have n0_ := Ja38_.mk (Ja47_ (g := gb101) (o := .cells #[.string a0_0, .string a0_1, .string a0_2] 116 (0, 0)) (by (with_reducible repeat (first | refine Ja50_ ?_ _ | refine Ja49_ ?_ | refine Ja48_ ?_ _)); exact BK101.out) hb); have n1_ := Ja38_.mk (Ja44_ (by repeat (first | (with_reducible first | exact HB.out | apply Ja43_ | apply Ja41_ | apply Ja42_ | refine Ja46_ ?_ GE101.out) | exact HB.out)) hb); clear BK101; clear HB; have BK101 := n0_; have HB := n1_; clear n0_ n1_; (try clear hb); (try clear hb2); (try clear hk); (try clear hi)))
   go_ret
   exact ⟨by first | rfl | (simp [errW_none, errW_some] <;> rfl) | (simp [*, errW_none, errW_some] <;> rfl), by repeat (first | (with_reducible first | exact HB.out | apply Ja43_ | apply Ja41_ | apply Ja42_ | refine Ja46_ ?_ GE101.out) | exact HB.out)⟩
  ·rw [if_neg c3] at H
   exact absurd H (by simp)
 ·rw [if_neg c2] at H
  exact absurd H (by simp)
end Go.Proofs.Ytadafplbgophfaa.PA
end
section
namespace Go.Proofs.Ytadafplbgophfaa.PA
set_option linter.unusedSimpArgs false
set_option linter.unusedVariables false
open Go.RowKit Go.Proofs.YtadafplbgophfaaW.PrintWords Go.Proofs.YtadafplbgophfaaW.PrintLast Go.Proofs.YtadafplbgophfaaW.PrintMore
theorem Bld.cut {w0 w w1 w7 : World} {g : Nat} {ok : Nat → Prop} {v v7 v8 v9 : Value} {lb : S116} {st fa : Int} {l : List S120} {o7 o8 o9 : Nat → Prop} {b1 b2 b3 : List ByteArray} (h : Bld w0 w g ok v lb st fa l) (hb : Below w.heap.size w w7) (hs : w.heap.size ≤ w1.heap.size)
    (h7 : Kd.R Kd.string 9 w7 w1.heap.size o7 v7 b1) (h8 : Kd.R Kd.string 9 w7 w1.heap.size o8 v8 b2) (h9 : Kd.R Kd.string 9 w7 w1.heap.size o9 v9 b3) :
    Bld w0 w7 g (fun k => ok k ∧ ¬ (some k = v7.ownBlock ∨ some k = v8.ownBlock ∨ some k = v9.ownBlock)) v lb st fa l := by
  refine ⟨Ja44_ h.below hb, h.ge, (hb.block g (blk_lt h.blk)).trans h.blk, ?_, fun e => h.nog e.1, fun k hk => ⟨h.fresh k (Nat.le_trans hb.size hk), ?_⟩⟩
  · refine Kd.R_mono (Kd.R_below (Kd.R_bound h.own) hb) (fun k hk => ⟨hk.1, ?_⟩)
    have hlt := hk.2.2.1
    rintro (e | e | e)
    · have := Kd.R_base h7 k e.symm; omega
    · have := Kd.R_base h8 k e.symm; omega
    · have := Kd.R_base h9 k e.symm; omega
  · rintro (e | e | e)
    · have := Kd.R_lt h7 k e.symm; omega
    · have := Kd.R_lt h8 k e.symm; omega
    · have := Kd.R_lt h9 k e.symm; omega
theorem F_cut {w7 : World} {base g : Nat} {ok o7 Q : Nat → Prop} {A : Option Addr} {c : Nat} {b : List ByteArray} (hg : g < base) (h : Kd.R Kd.string 9 w7 base o7 (.slice A b.length c) b) (hQ : ∀ k, some k = (Value.slice A b.length c).ownBlock → Q k) :
    Kd.F Kd.string w7 (fun k => ¬ (ok k ∧ ¬ Q k) ∧ k ≠ g) A b.length b :=
  Kd.F_mono (Kd.R_F (Kd.R_tight rfl h)) (fun k hk => ⟨fun e => e.2 (hQ k hk), fun e => by have := Kd.R_base h k hk.symm; omega⟩)
def pieceDoc (k : Nat) (a b c : ByteArray) (b1 b2 b3 : List ByteArray) (cls : Int) : Option (List S120 × Int) :=
  if cls = 4 then (J3_.f k b2 b3).bind fun nm =>
    if 0 ≤ nm.1 ∧ 0 ≤ nm.2 ∧ nm.1 + nm.2 ≤ b2.length ∧ nm.1 + nm.2 ≤ b3.length then
      (J12_.f k b1).bind fun jb => (J12_.f k ((b2.take ((b2.length : Int) - nm.2).toNat).drop nm.1.toNat)).bind fun jl => (J12_.f k ((b3.take ((b3.length : Int) - nm.2).toNat).drop nm.1.toNat)).bind fun jr =>
      (J12_.f k (b2.take nm.1.toNat)).bind fun s1 => (J12_.f k (b2.drop ((b2.length : Int) - nm.2).toNat)).bind fun s3 =>
      (doc_Of.f k ([] ++ [textPart s1, hunk ⟨a, b, c⟩ 2 jb jl jr, textPart s3])).bind fun d => some (d, 0)
    else none
  else none
theorem pieceDoc.mono (a b c : ByteArray) (b1 b2 b3 : List ByteArray) (cls : Int) (k : Nat) : LeO (pieceDoc k a b c b1 b2 b3 cls) (pieceDoc (k + 1) a b c b1 b2 b3 cls) := by
  unfold pieceDoc
  repeat' first
    | exact J3_.mono _ _ _
    | exact J12_.mono _ _
    | exact doc_Of.mono _ _
    | exact LeO.none _
    | exact LeO.refl _
    | refine LeO.ite ?_ ?_
    | refine LeO.bind ?_ (fun _ => ?_)
def J1_.f (k : Nat) (l0 l1 l2 : List ByteArray) (cs : List S78) (style : Int) (a b c : ByteArray) (favour : Int) : Option (List S120 × Int) :=
  if style = 2 ∧ favour = 0 ∧ cs.length = 1 then
    (J10_.f k a b c).bind fun p => if p = true then
      (J2_.f k l0 l1 l2 (rd_T78 cs 0).f0 (rd_T78 cs 0).f1.f0 (rd_T78 cs 0).f1.f1 (rd_T78 cs 0).f2.f0 (rd_T78 cs 0).f2.f1 (rd_T78 cs 0).f3.f0 (rd_T78 cs 0).f3.f1).bind fun t =>
      pieceDoc k a b c t.2.2.2.2.2.2.2.1 t.2.2.2.2.2.2.2.2.1 t.2.2.2.2.2.2.2.2.2.1 t.2.2.2.2.2.2.2.2.2.2
    else none
  else none
set_option maxHeartbeats 8000000 in
set_option maxRecDepth 100000 in
theorem J1_.calls (k : Nat) (A0_0 : Option Addr) (c0_0 : Nat) (l0_0 : List ByteArray) (A0_1 : Option Addr) (c0_1 : Nat) (l0_1 : List ByteArray) (A0_2 : Option Addr) (c0_2 : Nat) (l0_2 : List ByteArray) (A1 : Option Addr) (c1 : Nat) (l1 : List (S78)) (a2 : Int) (a3_0 a3_1 a3_2 : ByteArray) (a4 : Int) (r1 : List S120) (r2 : Int) (w : World) (hr0_0 : Kd.C Kd.string w A0_0 l0_0.length l0_0) (hc0_0 : l0_0.length ≤ c0_0) (hr0_1 : Kd.C Kd.string w A0_1 l0_1.length l0_1) (hc0_1 : l0_1.length ≤ c0_1) (hr0_2 : Kd.C Kd.string w A0_2 l0_2.length l0_2) (hc0_2 : l0_2.length ≤ c0_2) (hr1 : Kd.C k78 w A1 l1.length l1) (hc1 : l1.length ≤ c1) (h : J1_.f k l0_0 l0_1 l0_2 l1 a2 a3_0 a3_1 a3_2 a4 = some (r1, r2)) :
    Calls Try.prog 73 #[.agg #[.slice A0_0 l0_0.length c0_0, .slice A0_1 l0_1.length c0_1, .slice A0_2 l0_2.length c0_2], .slice A1 l1.length c1, .int .i64 a2, .agg #[.string a3_0, .string a3_1, .string a3_2], .int .i64 a4] w fun e w' => ∃ v0_ : Value, e = .returned (.tuple #[v0_, .int .i64 r2]) ∧ Kd.R k120 120 w' w.heap.size (fun _ => True) v0_ r1 ∧ Below w.heap.size w w' := by
  unfold J1_.f at h
  split at h
  case isFalse => cases h
  rename_i hG
  obtain ⟨rfl, rfl, hlen⟩ := hG
  replace h := Option.bind_eq_some_iff.1 h
  obtain ⟨p, hp, h⟩ := h
  split at h
  case isFalse => cases h
  rename_i hpt
  subst hpt
  replace h := Option.bind_eq_some_iff.1 h
  obtain ⟨⟨t0, t1, t2, t3, t4, t5, t6, b1, b2, b3, cls⟩, ht, h⟩ := h
  simp only at h
  unfold pieceDoc at h
  split at h
  case isFalse => cases h
  rename_i hcls
  subst hcls
  replace h := Option.bind_eq_some_iff.1 h
  obtain ⟨⟨n, m⟩, hnm, h⟩ := h
  simp only at h
  split at h
  case isFalse => cases h
  rename_i hN
  replace h := Option.bind_eq_some_iff.1 h
  obtain ⟨jb, hjb, h⟩ := h
  replace h := Option.bind_eq_some_iff.1 h
  obtain ⟨jl, hjl, h⟩ := h
  replace h := Option.bind_eq_some_iff.1 h
  obtain ⟨jr, hjr, h⟩ := h
  replace h := Option.bind_eq_some_iff.1 h
  obtain ⟨s1, hs1, h⟩ := h
  replace h := Option.bind_eq_some_iff.1 h
  obtain ⟨s3, hs3, h⟩ := h
  replace h := Option.bind_eq_some_iff.1 h
  obtain ⟨d, hd, h⟩ := h
  simp only [Option.some.injEq, Prod.mk.injEq] at h
  obtain ⟨rfl, rfl⟩ := h
  generalize hps : ([] ++ [textPart s1, hunk ⟨a3_0, a3_1, a3_2⟩ 2 jb jl jr, textPart s3]) = ps at hd
  have HPS := Ja38_.mk hps
  have HD := Ja38_.mk hd
  have HPL := Ja38_.mk hp
  have HCUT := Ja38_.mk ht
  have HNM := Ja38_.mk (And.intro hnm hN)
  have HALL := Ja38_.mk (And.intro hjb (And.intro hjl (And.intro hjr (And.intro hs1 hs3))))
  have HLEN := Ja38_.mk hlen
  have lt0 : decide ((0 : Int) < (l1.length : Int)) = true := decide_eq_true (by omega)
  have lt1 : decide ((1 : Int) < (l1.length : Int)) = false := decide_eq_false (by omega)
  have lt0n : decide (0 < l1.length) = true := decide_eq_true (by omega)
  have lt1n : decide (1 < l1.length) = false := decide_eq_false (by omega)
  have LT0 : Ja38_ ((0 : Int) < (l1.length : Int)) := ⟨by omega⟩
  have HA0 := Ja38_.mk (And.intro hr0_0 hc0_0)
  have HA1 := Ja38_.mk (And.intro hr0_1 hc0_1)
  have HA2 := Ja38_.mk (And.intro hr0_2 hc0_2)
  have HR1 := Ja38_.mk (And.intro hr1 hc1)
  clear hr0_0 hc0_0 hr0_1 hc0_1 hr0_2 hc0_2 hr1 hc1 hps hd hp ht hnm hN hjb hjl hjr hs1 hs3 hlen
  have hu112 := Try.underlying112
  have hu116 := Try.underlying116
  have hu181 := Try.underlying181
  have hu78 := Try.underlying78
  go_enter Try.func73, Try.ntmps73
  go_wp2_with (first | ((with_reducible refine gate_dst (N := 5) rfl ?_); refine box_event ?hg (N := 5) ?hd (cs := #[.slice A0_0 l0_0.length c0_0, .slice A0_1 l0_1.length c0_1, .slice A0_2 l0_2.length c0_2]) (t := 112) ?hr ?_; (case hd => rfl); (case hg => rfl); (case hr => first | (go_simp; done) | (go_simp; rfl)); intro f5 hg w1 hbox hb; have BF1 := Ja38_.mk hbox; have HB1 := Ja38_.mk hb; have GE5 : Ja38_ (w.heap.size ≤ f5) := ⟨Nat.le_of_eq hg.symm⟩; clear hg hbox hb) | ((with_reducible refine gate_dst (N := 8) rfl ?_); refine box_event ?hg (N := 8) ?hd (cs := #[.string a3_0, .string a3_1, .string a3_2]) (t := 116) ?hr ?_; (case hd => rfl); (case hg => rfl); (case hr => first | (go_simp; done) | (go_simp; rfl)); intro f8 hg w2 hbox hb; have BL2 := Ja38_.mk hbox; have BF2 := Ja38_.mk (Ja47_ BF1.out hb); have HB2 := Ja38_.mk (Ja44_ HB1.out hb); have z0 := (Ja39_ hbox 0).trans (show _ = some (Value.string a3_0) from rfl); have z1 := (Ja39_ hbox 1).trans (show _ = some (Value.string a3_1) from rfl); have z2 := (Ja39_ hbox 2).trans (show _ = some (Value.string a3_2) from rfl); clear hg hbox hb BF1 HB1))
  refine (J10_.calls k a3_0 a3_1 a3_2 true w2 HPL.out).mono ?_
  rintro e w3 ⟨rfl, hb⟩
  have BF3 := Ja38_.mk (Ja47_ BF2.out hb)
  have BL3 := Ja38_.mk (Ja47_ BL2.out hb)
  have HB3 := Ja38_.mk (Ja44_ HB2.out hb)
  clear z0 z1 z2 hb BF2 BL2 HB2
  have z0 := (Ja39_ BL3.out 0).trans (show _ = some (Value.string a3_0) from rfl)
  have z1 := (Ja39_ BL3.out 1).trans (show _ = some (Value.string a3_1) from rfl)
  have z2 := (Ja39_ BL3.out 2).trans (show _ = some (Value.string a3_2) from rfl)
  go_wp2_with (first | ((with_reducible refine gate_dst (N := 42) rfl ?_); refine box_event ?hg (N := 42) ?hd (cs := #[.string a3_0, .string a3_1, .string a3_2, .int .i64 2, .int .i64 0, .slice none 0 0]) (t := 181) ?hr ?_; (case hd => rfl); (case hg => rfl); (case hr => first | (go_simp; done) | (go_simp; rfl)); intro g hg w4 hbox hb; have BG4 := Ja38_.mk hbox; have BF4 := Ja38_.mk (Ja47_ BF3.out hb); have HB4 := Ja38_.mk (Ja44_ HB3.out hb); have GEg : Ja38_ (w.heap.size ≤ g) := ⟨by rw [hg]; exact Ja45_ HB3.out⟩; have NFG : Ja38_ (f5 ≠ g) := ⟨by rw [hg]; exact Nat.ne_of_lt (blk_lt BF3.out)⟩; clear hg hbox hb BF3 BL3 HB3 z0 z1 z2))
  have HBLD : Ja38_ (Bld w w4 g (fun k => w4.heap.size ≤ k) (.slice none 0 0) ⟨a3_0, a3_1, a3_2⟩ 2 0 []) := ⟨⟨HB4.out, GEg.out, BG4.out, Kd.R_nil _ _ _ _ _, Nat.not_le.2 (blk_lt BG4.out), fun _ hk => hk⟩⟩
  clear BG4
  go_loopg [45] 1 (fun kq v45 W => ∃ (v : Value) (l : List S120) (i : Int), v45 = .int .i64 i ∧ Ja38_ ((kq = 1 ∧ i = 0 ∧ l = []) ∨ (kq = 0 ∧ i = 1 ∧ l = ps)) ∧ Ja38_ (Bld w W g (fun k => w4.heap.size ≤ k) v ⟨a3_0, a3_1, a3_2⟩ 2 0 l) ∧ Ja38_ (Fr (fun k => w4.heap.size ≤ k) g w4 W))
  case atStart => exact ⟨_, [], 0, rfl, ⟨Or.inl ⟨rfl, rfl, rfl⟩⟩, HBLD, ⟨⟨Nat.le_refl _, fun _ _ _ _ => rfl⟩⟩⟩
  case round =>
    obtain ⟨v, l, i, rfl, HS, HW, HFR⟩ := hrel
    rcases HS.out with ⟨rfl, rfl, rfl⟩ | ⟨rfl, rfl, rfl⟩
    · clear HS
      have BFW := Ja38_.mk ((HFR.out.2 f5 (blk_lt BF4.out) (Nat.not_le.2 (blk_lt BF4.out)) NFG.out).trans BF4.out)
      have HCW := Ja38_.mk (Kd.C_below HR1.out.1 HW.out.below)
      obtain ⟨ad, ea, hx0, hx1, hx2, hx3, hx4, hx5, hx6⟩ := at_T78 HCW.out 0 (Int.le_refl _) LT0.out
      cases ea
      obtain ⟨ch, hch⟩ : ∃ ch, ch = rd_T78 l1 0 := ⟨_, rfl⟩
      have HCUT2 := Ja38_.mk HCUT.out
      replace HCUT2 := HCUT2.out
      rw [← hch] at hx0 hx1 hx2 hx3 hx4 hx5 hx6 HCUT2
      have HCT := Ja38_.mk HCUT2
      have HCH := Ja38_.mk hch
      have e0 : ad.add ((0 : Int).toNat * 7) = ad := by simp [Addr.add]
      rw [e0] at hx0 hx1 hx2 hx3 hx4 hx5 hx6
      clear hch HCUT2 e0
      have lt0p := eq_true LT0.out
      have lt0q : (0 < l1.length) = True := eq_true (by have := LT0.out; omega)
      go_wp2_with (first | ((with_reducible refine gate_dst (N := 14) rfl ?_); refine box_event ?hg (N := 14) ?hd (cs := #[.bool false, .int .i64 0, .int .i64 0, .int .i64 0, .int .i64 0, .int .i64 0, .int .i64 0]) (t := 78) ?hr ?_; (case hd => rfl); (case hg => rfl); (case hr => first | (go_simp; done) | (go_simp; rfl)); intro gb hg w5 hbox hb; have BC5 := Ja38_.mk hbox; have HB5 := Ja38_.mk hb; have BF5 := Ja38_.mk (Ja47_ BFW.out hb); have GE := Ja38_.mk (Nat.le_of_eq hg.symm : wr.heap.size ≤ gb); have NE := Ja38_.mk ((by rw [hg]; exact Nat.ne_of_gt (blk_lt BFW.out)) : gb ≠ f5); have hne := NE.out; have hne' := Ne.symm NE.out; clear hg; have y0 := (Ja39_ hbox 0).trans (show _ = some (Value.bool false) from rfl); have y1 := (Ja39_ hbox 1).trans (show _ = some (Value.int .i64 0) from rfl); have y2 := (Ja39_ hbox 2).trans (show _ = some (Value.int .i64 0) from rfl); have y3 := (Ja39_ hbox 3).trans (show _ = some (Value.int .i64 0) from rfl); have y4 := (Ja39_ hbox 4).trans (show _ = some (Value.int .i64 0) from rfl); have y5 := (Ja39_ hbox 5).trans (show _ = some (Value.int .i64 0) from rfl); have y6 := (Ja39_ hbox 6).trans (show _ = some (Value.int .i64 0) from rfl); have x0 := Ja40_ hbox 0; have x1 := Ja40_ hbox 1; have x2 := Ja40_ hbox 2; have x3 := Ja40_ hbox 3; have x4 := Ja40_ hbox 4; have x5 := Ja40_ hbox 5; have x6 := Ja40_ hbox 6; have u0 := (Ja39_ BF5.out 0).trans (show _ = some (Value.slice A0_0 l0_0.length c0_0) from rfl); have u1 := (Ja39_ BF5.out 1).trans (show _ = some (Value.slice A0_1 l0_1.length c0_1) from rfl); have u2 := (Ja39_ BF5.out 2).trans (show _ = some (Value.slice A0_2 l0_2.length c0_2) from rfl); clear hbox hb))
      have HB6 : Ja38_ (Below wr.heap.size wr (((((((w5.setCell ⟨gb, 0, none⟩ (.bool ch.f0)).setCell ⟨gb, 1, none⟩ (.int .i64 ch.f1.f0)).setCell ⟨gb, 2, none⟩ (.int .i64 ch.f1.f1)).setCell ⟨gb, 3, none⟩ (.int .i64 ch.f2.f0)).setCell ⟨gb, 4, none⟩ (.int .i64 ch.f2.f1)).setCell ⟨gb, 5, none⟩ (.int .i64 ch.f3.f0)).setCell ⟨gb, 6, none⟩ (.int .i64 ch.f3.f1))) := ⟨(Ja46_ (j := 6) (v := .int .i64 ch.f3.f1) (Ja46_ (j := 5) (v := .int .i64 ch.f3.f0) (Ja46_ (j := 4) (v := .int .i64 ch.f2.f1) (Ja46_ (j := 3) (v := .int .i64 ch.f2.f0) (Ja46_ (j := 2) (v := .int .i64 ch.f1.f1) (Ja46_ (j := 1) (v := .int .i64 ch.f1.f0) (Ja46_ (j := 0) (v := .bool ch.f0) HB5.out GE.out) GE.out) GE.out) GE.out) GE.out) GE.out) GE.out)⟩
      clear y0 y1 y2 y3 y4 y5 y6 x0 x1 x2 x3 x4 x5 x6 u0 u1 u2 hne hne' hx0 hx1 hx2 hx3 hx4 hx5 hx6
      generalize (((((((w5.setCell ⟨gb, 0, none⟩ (.bool ch.f0)).setCell ⟨gb, 1, none⟩ (.int .i64 ch.f1.f0)).setCell ⟨gb, 2, none⟩ (.int .i64 ch.f1.f1)).setCell ⟨gb, 3, none⟩ (.int .i64 ch.f2.f0)).setCell ⟨gb, 4, none⟩ (.int .i64 ch.f2.f1)).setCell ⟨gb, 5, none⟩ (.int .i64 ch.f3.f0)).setCell ⟨gb, 6, none⟩ (.int .i64 ch.f3.f1)) = w6 at HB6 ⊢
      have HB6' := Ja38_.mk (Ja44_ HW.out.below HB6.out)
      refine (J2_.calls k A0_0 c0_0 l0_0 A0_1 c0_1 l0_1 A0_2 c0_2 l0_2 ch.f0 ch.f1.f0 ch.f1.f1 ch.f2.f0 ch.f2.f1 ch.f3.f0 ch.f3.f1 t0 t1 t2 t3 t4 t5 t6 b1 b2 b3 4 w6 (Kd.C_below HA0.out.1 HB6'.out) HA0.out.2 (Kd.C_below HA1.out.1 HB6'.out) HA1.out.2 (Kd.C_below HA2.out.1 HB6'.out) HA2.out.2 HCT.out).mono ?_
      rintro e w7 ⟨v7, v8, v9, rfl, ho0, ho1, ho2, hb⟩
      obtain ⟨A7, c7, rfl, hl7, _⟩ := Kd.R_reads ho0
      obtain ⟨A8, c8, rfl, hl8, _⟩ := Kd.R_reads ho1
      obtain ⟨A9, c9, rfl, hl9, _⟩ := Kd.R_reads ho2
      have HX := Ja38_.mk (Bld.cut HW.out (Ja44_ HB6.out hb) HB6.out.size ho0 ho1 ho2)
      have HF7 := Ja38_.mk (F_cut (ok := fun k => w4.heap.size ≤ k) (g := g) (Q := fun k => some k = (Value.slice A7 b1.length c7).ownBlock ∨ some k = (Value.slice A8 b2.length c8).ownBlock ∨ some k = (Value.slice A9 b3.length c9).ownBlock) (Nat.lt_of_lt_of_le (blk_lt HW.out.blk) HB6.out.size) ho0 (fun _ h => Or.inl h))
      have HF8 := Ja38_.mk (F_cut (ok := fun k => w4.heap.size ≤ k) (g := g) (Q := fun k => some k = (Value.slice A7 b1.length c7).ownBlock ∨ some k = (Value.slice A8 b2.length c8).ownBlock ∨ some k = (Value.slice A9 b3.length c9).ownBlock) (Nat.lt_of_lt_of_le (blk_lt HW.out.blk) HB6.out.size) ho1 (fun _ h => Or.inr (Or.inl h)))
      have HF9 := Ja38_.mk (F_cut (ok := fun k => w4.heap.size ≤ k) (g := g) (Q := fun k => some k = (Value.slice A7 b1.length c7).ownBlock ∨ some k = (Value.slice A8 b2.length c8).ownBlock ∨ some k = (Value.slice A9 b3.length c9).ownBlock) (Nat.lt_of_lt_of_le (blk_lt HW.out.blk) HB6.out.size) ho2 (fun _ h => Or.inr (Or.inr h)))
      have HR7 := Ja38_.mk (HFR.out.trans (Fr.of_below (Ja44_ HB6.out hb)))
      have HL7 := Ja38_.mk (And.intro hl7 (And.intro hl8 hl9))
      clear ho0 ho1 ho2 hl7 hl8 hl9 hb
      go_wp2_with fail
      obtain ⟨n1, n2, n3, n4, n5⟩ := HNM.out
      obtain ⟨j1, j2, j3, j4, j5⟩ := HALL.out
      refine (J5_.calls k g _ v ⟨a3_0, a3_1, a3_2⟩ 2 0 [] t0 t1 t2 t3 t4 t5 t6 4 A7 c7 b1 A8 c8 b2 A9 c9 b3 w w7 HX.out HF7.out HL7.out.1 HF8.out HL7.out.2.1 HF9.out HL7.out.2.2 n m rfl rfl rfl n1 n2 n3 n4 n5 (by simp) jb jl jr s1 s3 j1 j2 j3 j4 j5).mono ?_
      rintro e w8 ⟨rfl, ⟨v', hW⟩, hfr⟩
      have HW8 := Ja38_.mk (hW.widen (ok := fun k => w4.heap.size ≤ k) (fun k e => e.1) HW.out.nog)
      have HR8 := Ja38_.mk (HR7.out.trans (hfr.mono (fun k e => e.1)))
      clear hW hfr n1 n2 n3 n4 n5 j1 j2 j3 j4 j5
      rw [HPS.out] at HW8
      go_wp2_with fail
      go_roundg 0
      case measure => omega
      case rel => exact ⟨v', ps, 1, rfl, ⟨Or.inr ⟨rfl, rfl, rfl⟩⟩, HW8, HR8⟩
    · clear HS
      obtain ⟨Av, cv, rfl, hlv, hCv⟩ := Kd.R_reads HW.out.own
      have HCv := Ja38_.mk (And.intro hlv hCv)
      clear hlv hCv
      have hg5 := (Ja39_ HW.out.blk 5).trans (show _ = some (Value.slice Av _ cv) from rfl)
      go_wp2_with fail
      refine (doc_Of.calls k Av cv _ d wr HCv.out.2 HCv.out.1 HD.out).mono ?_
      rintro e w9 ⟨v0, rfl, hR, hb⟩
      have HRR := Ja38_.mk (Kd.R_lower hR (Ja45_ HW.out.below))
      have HBB := Ja38_.mk (Ja44_ HW.out.below hb)
      clear hR hb
      go_wp2_with fail
      go_ret2
      exact ⟨v0, rfl, HRR.out, HBB.out⟩
end Go.Proofs.Ytadafplbgophfaa.PA
end
section
namespace Go.Proofs.Ytadafplbgophfaa.PA
set_option linter.unusedSimpArgs false
set_option linter.unusedVariables false
open Go.RowKit Go.Proofs.YtadafplbgophfaaW.PrintWords Go.Proofs.YtadafplbgophfaaW.PrintLast Go.Proofs.YtadafplbgophfaaW.PrintMore
def docGo (k : Nat) (favour : Int) (l0 l1 l2 : List ByteArray) : List S78 → List S120 → Option (List S120)
  | [], acc => some acc
  | c :: r, acc => if acc.length ≤ 900000000 then (J2_.f k l0 l1 l2 c.f0 c.f1.f0 c.f1.f1 c.f2.f0 c.f2.f1 c.f3.f0 c.f3.f1).bind fun t =>
      if t.2.2.2.2.2.2.2.2.2.2 = 0 ∨ t.2.2.2.2.2.2.2.2.2.2 = 1 ∨ t.2.2.2.2.2.2.2.2.2.2 = 2 ∨ t.2.2.2.2.2.2.2.2.2.2 = 3 ∨ t.2.2.2.2.2.2.2.2.2.2 = 4 then
        (J12_.f k (chosen t.2.2.2.2.2.2.2.2.2.2 favour t.2.2.2.2.2.2.2.1 t.2.2.2.2.2.2.2.2.1 t.2.2.2.2.2.2.2.2.2.1)).bind fun s => docGo k favour l0 l1 l2 r (acc ++ [textPart s]) else none
    else none
def docFav (k : Nat) (l0 l1 l2 : List ByteArray) (cs : List S78) (favour : Int) : Option (List S120) := (docGo k favour l0 l1 l2 cs []).bind fun ps => doc_Of.f k ps
theorem plain_none (k : Nat) : J10_.f k ⟨#[]⟩ ⟨#[]⟩ ⟨#[]⟩ = some true := by kernel_rfl
set_option maxHeartbeats 8000000 in
set_option maxRecDepth 100000 in
theorem J1_.favoured1 (k : Nat) (A0_0 : Option Addr) (c0_0 : Nat) (l0_0 : List ByteArray) (A0_1 : Option Addr) (c0_1 : Nat) (l0_1 : List ByteArray) (A0_2 : Option Addr) (c0_2 : Nat) (l0_2 : List ByteArray) (A1 : Option Addr) (c1 : Nat) (l1 : List (S78)) (d : List S120) (w : World) (hr0_0 : Kd.C Kd.string w A0_0 l0_0.length l0_0) (hc0_0 : l0_0.length ≤ c0_0) (hr0_1 : Kd.C Kd.string w A0_1 l0_1.length l0_1) (hc0_1 : l0_1.length ≤ c0_1) (hr0_2 : Kd.C Kd.string w A0_2 l0_2.length l0_2) (hc0_2 : l0_2.length ≤ c0_2) (hr1 : Kd.C k78 w A1 l1.length l1) (hc1 : l1.length ≤ c1) (h : docFav k l0_0 l0_1 l0_2 l1 1 = some d) :
    Calls Try.prog 73 #[.agg #[.slice A0_0 l0_0.length c0_0, .slice A0_1 l0_1.length c0_1, .slice A0_2 l0_2.length c0_2], .slice A1 l1.length c1, .int .i64 0, .agg #[.string ⟨#[]⟩, .string ⟨#[]⟩, .string ⟨#[]⟩], .int .i64 1] w fun e w' => ∃ v0_ : Value, e = .returned (.tuple #[v0_, .int .i64 0]) ∧ Kd.R k120 120 w' w.heap.size (fun _ => True) v0_ d ∧ Below w.heap.size w w' := by
  unfold docFav at h
  replace h := Option.bind_eq_some_iff.1 h
  obtain ⟨ps, hgo, hd⟩ := h
  have HD := Ja38_.mk hd
  have HGO := Ja38_.mk hgo
  have HA0 := Ja38_.mk (And.intro hr0_0 hc0_0)
  have HA1 := Ja38_.mk (And.intro hr0_1 hc0_1)
  have HA2 := Ja38_.mk (And.intro hr0_2 hc0_2)
  have HR1 := Ja38_.mk (And.intro hr1 hc1)
  have HNN : Ja38_ (l1.length ≤ 9223372036854775807) := ⟨hr1.2.1⟩
  clear hr0_0 hc0_0 hr0_1 hc0_1 hr0_2 hc0_2 hr1 hc1 hd hgo
  have hu112 := Try.underlying112
  have hu116 := Try.underlying116
  have hu181 := Try.underlying181
  have hu78 := Try.underlying78
  go_enter Try.func73, Try.ntmps73
  go_wp2_with (first | ((with_reducible refine gate_dst (N := 5) rfl ?_); refine box_event ?hg (N := 5) ?hd (cs := #[.slice A0_0 l0_0.length c0_0, .slice A0_1 l0_1.length c0_1, .slice A0_2 l0_2.length c0_2]) (t := 112) ?hr ?_; (case hd => rfl); (case hg => rfl); (case hr => first | (go_simp; done) | (go_simp; rfl)); intro f5 hg w1 hbox hb; have BF1 := Ja38_.mk hbox; have HB1 := Ja38_.mk hb; have GE5 : Ja38_ (w.heap.size ≤ f5) := ⟨Nat.le_of_eq hg.symm⟩; clear hg hbox hb) | ((with_reducible refine gate_dst (N := 8) rfl ?_); refine box_event ?hg (N := 8) ?hd (cs := #[.string ⟨#[]⟩, .string ⟨#[]⟩, .string ⟨#[]⟩]) (t := 116) ?hr ?_; (case hd => rfl); (case hg => rfl); (case hr => first | (go_simp; done) | (go_simp; rfl)); intro f8 hg w2 hbox hb; have BL2 := Ja38_.mk hbox; have BF2 := Ja38_.mk (Ja47_ BF1.out hb); have HB2 := Ja38_.mk (Ja44_ HB1.out hb); have z0 := (Ja39_ hbox 0).trans (show _ = some (Value.string ⟨#[]⟩) from rfl); have z1 := (Ja39_ hbox 1).trans (show _ = some (Value.string ⟨#[]⟩) from rfl); have z2 := (Ja39_ hbox 2).trans (show _ = some (Value.string ⟨#[]⟩) from rfl); clear hg hbox hb BF1 HB1))
  refine (J10_.calls k ⟨#[]⟩ ⟨#[]⟩ ⟨#[]⟩ true w2 (plain_none k)).mono ?_
  rintro e w3 ⟨rfl, hb⟩
  have BF3 := Ja38_.mk (Ja47_ BF2.out hb)
  have BL3 := Ja38_.mk (Ja47_ BL2.out hb)
  have HB3 := Ja38_.mk (Ja44_ HB2.out hb)
  clear z0 z1 z2 hb BF2 BL2 HB2
  have z0 := (Ja39_ BL3.out 0).trans (show _ = some (Value.string ⟨#[]⟩) from rfl)
  have z1 := (Ja39_ BL3.out 1).trans (show _ = some (Value.string ⟨#[]⟩) from rfl)
  have z2 := (Ja39_ BL3.out 2).trans (show _ = some (Value.string ⟨#[]⟩) from rfl)
  go_wp2_with (first | ((with_reducible refine gate_dst (N := 42) rfl ?_); refine box_event ?hg (N := 42) ?hd (cs := #[.string ⟨#[]⟩, .string ⟨#[]⟩, .string ⟨#[]⟩, .int .i64 0, .int .i64 1, .slice none 0 0]) (t := 181) ?hr ?_; (case hd => rfl); (case hg => rfl); (case hr => first | (go_simp; done) | (go_simp; rfl)); intro g hg w4 hbox hb; have BG4 := Ja38_.mk hbox; have BF4 := Ja38_.mk (Ja47_ BF3.out hb); have HB4 := Ja38_.mk (Ja44_ HB3.out hb); have GEg : Ja38_ (w.heap.size ≤ g) := ⟨by rw [hg]; exact Ja45_ HB3.out⟩; have NFG : Ja38_ (f5 ≠ g) := ⟨by rw [hg]; exact Nat.ne_of_lt (blk_lt BF3.out)⟩; clear hg hbox hb BF3 BL3 HB3 z0 z1 z2))
  have HBLD : Ja38_ (Bld w w4 g (fun k => w4.heap.size ≤ k) (.slice none 0 0) z116 0 1 []) := ⟨⟨HB4.out, GEg.out, BG4.out, Kd.R_nil _ _ _ _ _, Nat.not_le.2 (blk_lt BG4.out), fun _ hk => hk⟩⟩
  clear BG4
  go_loopg [45] l1.length (fun kq v45 W => ∃ (v : Value) (l : List S120) (i : Nat), v45 = .int .i64 (i : Int) ∧ Ja38_ (i + kq = l1.length) ∧ Ja38_ (Bld w W g (fun k => w4.heap.size ≤ k) v z116 0 1 l) ∧ Ja38_ (Fr (fun k => w4.heap.size ≤ k) g w4 W) ∧ Ja38_ (docGo k 1 l0_0 l0_1 l0_2 (l1.drop i) l = some ps))
  case atStart => exact ⟨_, [], 0, rfl, ⟨Nat.zero_add _⟩, HBLD, ⟨⟨Nat.le_refl _, fun _ _ _ _ => rfl⟩⟩, HGO⟩
  case round =>
    obtain ⟨v, l, i, rfl, HI, HW, HFR, HG⟩ := hrel
    cases gk with
    | succ k1 =>
      have hil : i < l1.length := by have := HI.out; omega
      have LT0 : Ja38_ ((i : Int) < (l1.length : Int)) := ⟨by omega⟩
      have lt0 : decide ((i : Int) < (l1.length : Int)) = true := decide_eq_true LT0.out
      have lt0n : decide (i < l1.length) = true := decide_eq_true hil
      have BFW := Ja38_.mk ((HFR.out.2 f5 (blk_lt BF4.out) (Nat.not_le.2 (blk_lt BF4.out)) NFG.out).trans BF4.out)
      have HCW := Ja38_.mk (Kd.C_below HR1.out.1 HW.out.below)
      obtain ⟨ad, ea, hx0, hx1, hx2, hx3, hx4, hx5, hx6⟩ := at_T78 HCW.out (i : Int) (by omega) LT0.out
      cases ea
      have hrd : rd_T78 l1 (i : Int) = l1[i] := by simp [rd_T78, List.getD_eq_getElem?_getD, hil]
      rw [hrd, Int.toNat_natCast] at hx0 hx1 hx2 hx3 hx4 hx5 hx6
      have hg := HG.out
      rw [List.drop_eq_getElem_cons hil] at hg
      generalize l1[i] = ch at hx0 hx1 hx2 hx3 hx4 hx5 hx6 hg
      unfold docGo at hg
      split at hg
      case isFalse => cases hg
      rename_i hll
      replace hg := Option.bind_eq_some_iff.1 hg
      obtain ⟨⟨t0, t1, t2, t3, t4, t5, t6, b1, b2, b3, cls⟩, ht, hg⟩ := hg
      simp only at hg
      split at hg
      case isFalse => cases hg
      rename_i hcls
      replace hg := Option.bind_eq_some_iff.1 hg
      obtain ⟨s, hs, hg⟩ := hg
      have HCT := Ja38_.mk ht
      have HLL := Ja38_.mk hll
      have HCL := Ja38_.mk hcls
      have HS := Ja38_.mk hs
      have HGN := Ja38_.mk hg
      have HWI : Ja38_ (wrap64 ((i : Int) + 1) = ((i + 1 : Nat) : Int)) := ⟨by have := HNN.out; unfold wrap64; omega⟩
      have p0t : ((0 : Int) ≤ (i : Int)) = True := eq_true (by omega)
      have lt0p := eq_true LT0.out
      have lt0q : (i < l1.length) = True := eq_true hil
      clear ht hll hcls hs hg HG hrd
      go_wp2_with (first | ((with_reducible refine gate_dst (N := 14) rfl ?_); refine box_event ?hg (N := 14) ?hd (cs := #[.bool false, .int .i64 0, .int .i64 0, .int .i64 0, .int .i64 0, .int .i64 0, .int .i64 0]) (t := 78) ?hr ?_; (case hd => rfl); (case hg => rfl); (case hr => first | (go_simp; done) | (go_simp; rfl)); intro gb hg w5 hbox hb; have BC5 := Ja38_.mk hbox; have HB5 := Ja38_.mk hb; have BF5 := Ja38_.mk (Ja47_ BFW.out hb); have GE := Ja38_.mk (Nat.le_of_eq hg.symm : wr.heap.size ≤ gb); have NE := Ja38_.mk ((by rw [hg]; exact Nat.ne_of_gt (blk_lt BFW.out)) : gb ≠ f5); have hne := NE.out; have hne' := Ne.symm NE.out; clear hg; have y0 := (Ja39_ hbox 0).trans (show _ = some (Value.bool false) from rfl); have y1 := (Ja39_ hbox 1).trans (show _ = some (Value.int .i64 0) from rfl); have y2 := (Ja39_ hbox 2).trans (show _ = some (Value.int .i64 0) from rfl); have y3 := (Ja39_ hbox 3).trans (show _ = some (Value.int .i64 0) from rfl); have y4 := (Ja39_ hbox 4).trans (show _ = some (Value.int .i64 0) from rfl); have y5 := (Ja39_ hbox 5).trans (show _ = some (Value.int .i64 0) from rfl); have y6 := (Ja39_ hbox 6).trans (show _ = some (Value.int .i64 0) from rfl); have x0 := Ja40_ hbox 0; have x1 := Ja40_ hbox 1; have x2 := Ja40_ hbox 2; have x3 := Ja40_ hbox 3; have x4 := Ja40_ hbox 4; have x5 := Ja40_ hbox 5; have x6 := Ja40_ hbox 6; have u0 := (Ja39_ BF5.out 0).trans (show _ = some (Value.slice A0_0 l0_0.length c0_0) from rfl); have u1 := (Ja39_ BF5.out 1).trans (show _ = some (Value.slice A0_1 l0_1.length c0_1) from rfl); have u2 := (Ja39_ BF5.out 2).trans (show _ = some (Value.slice A0_2 l0_2.length c0_2) from rfl); clear hbox hb))
      have HB6 : Ja38_ (Below wr.heap.size wr (((((((w5.setCell ⟨gb, 0, none⟩ (.bool ch.f0)).setCell ⟨gb, 1, none⟩ (.int .i64 ch.f1.f0)).setCell ⟨gb, 2, none⟩ (.int .i64 ch.f1.f1)).setCell ⟨gb, 3, none⟩ (.int .i64 ch.f2.f0)).setCell ⟨gb, 4, none⟩ (.int .i64 ch.f2.f1)).setCell ⟨gb, 5, none⟩ (.int .i64 ch.f3.f0)).setCell ⟨gb, 6, none⟩ (.int .i64 ch.f3.f1))) := ⟨(Ja46_ (j := 6) (v := .int .i64 ch.f3.f1) (Ja46_ (j := 5) (v := .int .i64 ch.f3.f0) (Ja46_ (j := 4) (v := .int .i64 ch.f2.f1) (Ja46_ (j := 3) (v := .int .i64 ch.f2.f0) (Ja46_ (j := 2) (v := .int .i64 ch.f1.f1) (Ja46_ (j := 1) (v := .int .i64 ch.f1.f0) (Ja46_ (j := 0) (v := .bool ch.f0) HB5.out GE.out) GE.out) GE.out) GE.out) GE.out) GE.out) GE.out)⟩
      clear y0 y1 y2 y3 y4 y5 y6 x0 x1 x2 x3 x4 x5 x6 u0 u1 u2 hne hne' hx0 hx1 hx2 hx3 hx4 hx5 hx6
      generalize (((((((w5.setCell ⟨gb, 0, none⟩ (.bool ch.f0)).setCell ⟨gb, 1, none⟩ (.int .i64 ch.f1.f0)).setCell ⟨gb, 2, none⟩ (.int .i64 ch.f1.f1)).setCell ⟨gb, 3, none⟩ (.int .i64 ch.f2.f0)).setCell ⟨gb, 4, none⟩ (.int .i64 ch.f2.f1)).setCell ⟨gb, 5, none⟩ (.int .i64 ch.f3.f0)).setCell ⟨gb, 6, none⟩ (.int .i64 ch.f3.f1)) = w6 at HB6 ⊢
      have HB6' := Ja38_.mk (Ja44_ HW.out.below HB6.out)
      refine (J2_.calls k A0_0 c0_0 l0_0 A0_1 c0_1 l0_1 A0_2 c0_2 l0_2 ch.f0 ch.f1.f0 ch.f1.f1 ch.f2.f0 ch.f2.f1 ch.f3.f0 ch.f3.f1 t0 t1 t2 t3 t4 t5 t6 b1 b2 b3 cls w6 (Kd.C_below HA0.out.1 HB6'.out) HA0.out.2 (Kd.C_below HA1.out.1 HB6'.out) HA1.out.2 (Kd.C_below HA2.out.1 HB6'.out) HA2.out.2 HCT.out).mono ?_
      rintro e w7 ⟨v7, v8, v9, rfl, ho0, ho1, ho2, hb⟩
      obtain ⟨A7, c7, rfl, hl7, _⟩ := Kd.R_reads ho0
      obtain ⟨A8, c8, rfl, hl8, _⟩ := Kd.R_reads ho1
      obtain ⟨A9, c9, rfl, hl9, _⟩ := Kd.R_reads ho2
      have HX := Ja38_.mk (Bld.cut HW.out (Ja44_ HB6.out hb) HB6.out.size ho0 ho1 ho2)
      have HF7 := Ja38_.mk (F_cut (ok := fun k => w4.heap.size ≤ k) (g := g) (Q := fun k => some k = (Value.slice A7 b1.length c7).ownBlock ∨ some k = (Value.slice A8 b2.length c8).ownBlock ∨ some k = (Value.slice A9 b3.length c9).ownBlock) (Nat.lt_of_lt_of_le (blk_lt HW.out.blk) HB6.out.size) ho0 (fun _ h => Or.inl h))
      have HF8 := Ja38_.mk (F_cut (ok := fun k => w4.heap.size ≤ k) (g := g) (Q := fun k => some k = (Value.slice A7 b1.length c7).ownBlock ∨ some k = (Value.slice A8 b2.length c8).ownBlock ∨ some k = (Value.slice A9 b3.length c9).ownBlock) (Nat.lt_of_lt_of_le (blk_lt HW.out.blk) HB6.out.size) ho1 (fun _ h => Or.inr (Or.inl h)))
      have HF9 := Ja38_.mk (F_cut (ok := fun k => w4.heap.size ≤ k) (g := g) (Q := fun k => some k = (Value.slice A7 b1.length c7).ownBlock ∨ some k = (Value.slice A8 b2.length c8).ownBlock ∨ some k = (Value.slice A9 b3.length c9).ownBlock) (Nat.lt_of_lt_of_le (blk_lt HW.out.blk) HB6.out.size) ho2 (fun _ h => Or.inr (Or.inr h)))
      have HR7 := Ja38_.mk (HFR.out.trans (Fr.of_below (Ja44_ HB6.out hb)))
      have HL7 := Ja38_.mk (And.intro hl7 (And.intro hl8 hl9))
      clear ho0 ho1 ho2 hl7 hl8 hl9 hb
      go_wp2_with fail
      refine (J5_.favoured k g _ v z116 0 1 l t0 t1 t2 t3 t4 t5 t6 cls A7 c7 b1 A8 c8 b2 A9 c9 b3 w w7 HX.out HF7.out HL7.out.1 HF8.out HL7.out.2.1 HF9.out HL7.out.2.2 HCL.out (by decide) (by have := HLL.out; omega) s HS.out).mono ?_
      rintro e w8 ⟨rfl, ⟨v', hW⟩, hfr⟩
      have HW8 := Ja38_.mk (hW.widen (ok := fun k => w4.heap.size ≤ k) (fun k e => e.1) HW.out.nog)
      have HR8 := Ja38_.mk (HR7.out.trans (hfr.mono (fun k e => e.1)))
      clear hW hfr
      go_wp2_with fail
      go_roundg k1
      case measure => omega
      case rel => exact ⟨v', _, i + 1, by rw [HWI.out], ⟨by have := HI.out; omega⟩, HW8, HR8, HGN⟩
    | zero =>
      have hil : ¬ i < l1.length := by have := HI.out; omega
      have lt1 : decide ((i : Int) < (l1.length : Int)) = false := decide_eq_false (by omega)
      have lt1n : decide (i < l1.length) = false := decide_eq_false hil
      have hg := HG.out
      rw [List.drop_of_length_le (by omega)] at hg
      unfold docGo at hg
      simp only [Option.some.injEq] at hg
      subst hg
      obtain ⟨Av, cv, rfl, hlv, hCv⟩ := Kd.R_reads HW.out.own
      have HCv := Ja38_.mk (And.intro hlv hCv)
      clear hlv hCv hil
      have hg5 := (Ja39_ HW.out.blk 5).trans (show _ = some (Value.slice Av _ cv) from rfl)
      go_wp2_with fail
      refine (doc_Of.calls k Av cv _ d wr HCv.out.2 HCv.out.1 HD.out).mono ?_
      rintro e w9 ⟨v0, rfl, hR, hb⟩
      have HRR := Ja38_.mk (Kd.R_lower hR (Ja45_ HW.out.below))
      have HBB := Ja38_.mk (Ja44_ HW.out.below hb)
      clear hR hb
      go_wp2_with fail
      go_ret2
      exact ⟨v0, rfl, HRR.out, HBB.out⟩
set_option maxHeartbeats 8000000 in
set_option maxRecDepth 100000 in
theorem J1_.favoured3 (k : Nat) (A0_0 : Option Addr) (c0_0 : Nat) (l0_0 : List ByteArray) (A0_1 : Option Addr) (c0_1 : Nat) (l0_1 : List ByteArray) (A0_2 : Option Addr) (c0_2 : Nat) (l0_2 : List ByteArray) (A1 : Option Addr) (c1 : Nat) (l1 : List (S78)) (d : List S120) (w : World) (hr0_0 : Kd.C Kd.string w A0_0 l0_0.length l0_0) (hc0_0 : l0_0.length ≤ c0_0) (hr0_1 : Kd.C Kd.string w A0_1 l0_1.length l0_1) (hc0_1 : l0_1.length ≤ c0_1) (hr0_2 : Kd.C Kd.string w A0_2 l0_2.length l0_2) (hc0_2 : l0_2.length ≤ c0_2) (hr1 : Kd.C k78 w A1 l1.length l1) (hc1 : l1.length ≤ c1) (h : docFav k l0_0 l0_1 l0_2 l1 3 = some d) :
    Calls Try.prog 73 #[.agg #[.slice A0_0 l0_0.length c0_0, .slice A0_1 l0_1.length c0_1, .slice A0_2 l0_2.length c0_2], .slice A1 l1.length c1, .int .i64 0, .agg #[.string ⟨#[]⟩, .string ⟨#[]⟩, .string ⟨#[]⟩], .int .i64 3] w fun e w' => ∃ v0_ : Value, e = .returned (.tuple #[v0_, .int .i64 0]) ∧ Kd.R k120 120 w' w.heap.size (fun _ => True) v0_ d ∧ Below w.heap.size w w' := by
  unfold docFav at h
  replace h := Option.bind_eq_some_iff.1 h
  obtain ⟨ps, hgo, hd⟩ := h
  have HD := Ja38_.mk hd
  have HGO := Ja38_.mk hgo
  have HA0 := Ja38_.mk (And.intro hr0_0 hc0_0)
  have HA1 := Ja38_.mk (And.intro hr0_1 hc0_1)
  have HA2 := Ja38_.mk (And.intro hr0_2 hc0_2)
  have HR1 := Ja38_.mk (And.intro hr1 hc1)
  have HNN : Ja38_ (l1.length ≤ 9223372036854775807) := ⟨hr1.2.1⟩
  clear hr0_0 hc0_0 hr0_1 hc0_1 hr0_2 hc0_2 hr1 hc1 hd hgo
  have hu112 := Try.underlying112
  have hu116 := Try.underlying116
  have hu181 := Try.underlying181
  have hu78 := Try.underlying78
  go_enter Try.func73, Try.ntmps73
  go_wp2_with (first | ((with_reducible refine gate_dst (N := 5) rfl ?_); refine box_event ?hg (N := 5) ?hd (cs := #[.slice A0_0 l0_0.length c0_0, .slice A0_1 l0_1.length c0_1, .slice A0_2 l0_2.length c0_2]) (t := 112) ?hr ?_; (case hd => rfl); (case hg => rfl); (case hr => first | (go_simp; done) | (go_simp; rfl)); intro f5 hg w1 hbox hb; have BF1 := Ja38_.mk hbox; have HB1 := Ja38_.mk hb; have GE5 : Ja38_ (w.heap.size ≤ f5) := ⟨Nat.le_of_eq hg.symm⟩; clear hg hbox hb) | ((with_reducible refine gate_dst (N := 8) rfl ?_); refine box_event ?hg (N := 8) ?hd (cs := #[.string ⟨#[]⟩, .string ⟨#[]⟩, .string ⟨#[]⟩]) (t := 116) ?hr ?_; (case hd => rfl); (case hg => rfl); (case hr => first | (go_simp; done) | (go_simp; rfl)); intro f8 hg w2 hbox hb; have BL2 := Ja38_.mk hbox; have BF2 := Ja38_.mk (Ja47_ BF1.out hb); have HB2 := Ja38_.mk (Ja44_ HB1.out hb); have z0 := (Ja39_ hbox 0).trans (show _ = some (Value.string ⟨#[]⟩) from rfl); have z1 := (Ja39_ hbox 1).trans (show _ = some (Value.string ⟨#[]⟩) from rfl); have z2 := (Ja39_ hbox 2).trans (show _ = some (Value.string ⟨#[]⟩) from rfl); clear hg hbox hb BF1 HB1))
  refine (J10_.calls k ⟨#[]⟩ ⟨#[]⟩ ⟨#[]⟩ true w2 (plain_none k)).mono ?_
  rintro e w3 ⟨rfl, hb⟩
  have BF3 := Ja38_.mk (Ja47_ BF2.out hb)
  have BL3 := Ja38_.mk (Ja47_ BL2.out hb)
  have HB3 := Ja38_.mk (Ja44_ HB2.out hb)
  clear z0 z1 z2 hb BF2 BL2 HB2
  have z0 := (Ja39_ BL3.out 0).trans (show _ = some (Value.string ⟨#[]⟩) from rfl)
  have z1 := (Ja39_ BL3.out 1).trans (show _ = some (Value.string ⟨#[]⟩) from rfl)
  have z2 := (Ja39_ BL3.out 2).trans (show _ = some (Value.string ⟨#[]⟩) from rfl)
  go_wp2_with (first | ((with_reducible refine gate_dst (N := 42) rfl ?_); refine box_event ?hg (N := 42) ?hd (cs := #[.string ⟨#[]⟩, .string ⟨#[]⟩, .string ⟨#[]⟩, .int .i64 0, .int .i64 3, .slice none 0 0]) (t := 181) ?hr ?_; (case hd => rfl); (case hg => rfl); (case hr => first | (go_simp; done) | (go_simp; rfl)); intro g hg w4 hbox hb; have BG4 := Ja38_.mk hbox; have BF4 := Ja38_.mk (Ja47_ BF3.out hb); have HB4 := Ja38_.mk (Ja44_ HB3.out hb); have GEg : Ja38_ (w.heap.size ≤ g) := ⟨by rw [hg]; exact Ja45_ HB3.out⟩; have NFG : Ja38_ (f5 ≠ g) := ⟨by rw [hg]; exact Nat.ne_of_lt (blk_lt BF3.out)⟩; clear hg hbox hb BF3 BL3 HB3 z0 z1 z2))
  have HBLD : Ja38_ (Bld w w4 g (fun k => w4.heap.size ≤ k) (.slice none 0 0) z116 0 3 []) := ⟨⟨HB4.out, GEg.out, BG4.out, Kd.R_nil _ _ _ _ _, Nat.not_le.2 (blk_lt BG4.out), fun _ hk => hk⟩⟩
  clear BG4
  go_loopg [45] l1.length (fun kq v45 W => ∃ (v : Value) (l : List S120) (i : Nat), v45 = .int .i64 (i : Int) ∧ Ja38_ (i + kq = l1.length) ∧ Ja38_ (Bld w W g (fun k => w4.heap.size ≤ k) v z116 0 3 l) ∧ Ja38_ (Fr (fun k => w4.heap.size ≤ k) g w4 W) ∧ Ja38_ (docGo k 3 l0_0 l0_1 l0_2 (l1.drop i) l = some ps))
  case atStart => exact ⟨_, [], 0, rfl, ⟨Nat.zero_add _⟩, HBLD, ⟨⟨Nat.le_refl _, fun _ _ _ _ => rfl⟩⟩, HGO⟩
  case round =>
    obtain ⟨v, l, i, rfl, HI, HW, HFR, HG⟩ := hrel
    cases gk with
    | succ k1 =>
      have hil : i < l1.length := by have := HI.out; omega
      have LT0 : Ja38_ ((i : Int) < (l1.length : Int)) := ⟨by omega⟩
      have lt0 : decide ((i : Int) < (l1.length : Int)) = true := decide_eq_true LT0.out
      have lt0n : decide (i < l1.length) = true := decide_eq_true hil
      have BFW := Ja38_.mk ((HFR.out.2 f5 (blk_lt BF4.out) (Nat.not_le.2 (blk_lt BF4.out)) NFG.out).trans BF4.out)
      have HCW := Ja38_.mk (Kd.C_below HR1.out.1 HW.out.below)
      obtain ⟨ad, ea, hx0, hx1, hx2, hx3, hx4, hx5, hx6⟩ := at_T78 HCW.out (i : Int) (by omega) LT0.out
      cases ea
      have hrd : rd_T78 l1 (i : Int) = l1[i] := by simp [rd_T78, List.getD_eq_getElem?_getD, hil]
      rw [hrd, Int.toNat_natCast] at hx0 hx1 hx2 hx3 hx4 hx5 hx6
      have hg := HG.out
      rw [List.drop_eq_getElem_cons hil] at hg
      generalize l1[i] = ch at hx0 hx1 hx2 hx3 hx4 hx5 hx6 hg
      unfold docGo at hg
      split at hg
      case isFalse => cases hg
      rename_i hll
      replace hg := Option.bind_eq_some_iff.1 hg
      obtain ⟨⟨t0, t1, t2, t3, t4, t5, t6, b1, b2, b3, cls⟩, ht, hg⟩ := hg
      simp only at hg
      split at hg
      case isFalse => cases hg
      rename_i hcls
      replace hg := Option.bind_eq_some_iff.1 hg
      obtain ⟨s, hs, hg⟩ := hg
      have HCT := Ja38_.mk ht
      have HLL := Ja38_.mk hll
      have HCL := Ja38_.mk hcls
      have HS := Ja38_.mk hs
      have HGN := Ja38_.mk hg
      have HWI : Ja38_ (wrap64 ((i : Int) + 1) = ((i + 1 : Nat) : Int)) := ⟨by have := HNN.out; unfold wrap64; omega⟩
      have p0t : ((0 : Int) ≤ (i : Int)) = True := eq_true (by omega)
      have lt0p := eq_true LT0.out
      have lt0q : (i < l1.length) = True := eq_true hil
      clear ht hll hcls hs hg HG hrd
      go_wp2_with (first | ((with_reducible refine gate_dst (N := 14) rfl ?_); refine box_event ?hg (N := 14) ?hd (cs := #[.bool false, .int .i64 0, .int .i64 0, .int .i64 0, .int .i64 0, .int .i64 0, .int .i64 0]) (t := 78) ?hr ?_; (case hd => rfl); (case hg => rfl); (case hr => first | (go_simp; done) | (go_simp; rfl)); intro gb hg w5 hbox hb; have BC5 := Ja38_.mk hbox; have HB5 := Ja38_.mk hb; have BF5 := Ja38_.mk (Ja47_ BFW.out hb); have GE := Ja38_.mk (Nat.le_of_eq hg.symm : wr.heap.size ≤ gb); have NE := Ja38_.mk ((by rw [hg]; exact Nat.ne_of_gt (blk_lt BFW.out)) : gb ≠ f5); have hne := NE.out; have hne' := Ne.symm NE.out; clear hg; have y0 := (Ja39_ hbox 0).trans (show _ = some (Value.bool false) from rfl); have y1 := (Ja39_ hbox 1).trans (show _ = some (Value.int .i64 0) from rfl); have y2 := (Ja39_ hbox 2).trans (show _ = some (Value.int .i64 0) from rfl); have y3 := (Ja39_ hbox 3).trans (show _ = some (Value.int .i64 0) from rfl); have y4 := (Ja39_ hbox 4).trans (show _ = some (Value.int .i64 0) from rfl); have y5 := (Ja39_ hbox 5).trans (show _ = some (Value.int .i64 0) from rfl); have y6 := (Ja39_ hbox 6).trans (show _ = some (Value.int .i64 0) from rfl); have x0 := Ja40_ hbox 0; have x1 := Ja40_ hbox 1; have x2 := Ja40_ hbox 2; have x3 := Ja40_ hbox 3; have x4 := Ja40_ hbox 4; have x5 := Ja40_ hbox 5; have x6 := Ja40_ hbox 6; have u0 := (Ja39_ BF5.out 0).trans (show _ = some (Value.slice A0_0 l0_0.length c0_0) from rfl); have u1 := (Ja39_ BF5.out 1).trans (show _ = some (Value.slice A0_1 l0_1.length c0_1) from rfl); have u2 := (Ja39_ BF5.out 2).trans (show _ = some (Value.slice A0_2 l0_2.length c0_2) from rfl); clear hbox hb))
      have HB6 : Ja38_ (Below wr.heap.size wr (((((((w5.setCell ⟨gb, 0, none⟩ (.bool ch.f0)).setCell ⟨gb, 1, none⟩ (.int .i64 ch.f1.f0)).setCell ⟨gb, 2, none⟩ (.int .i64 ch.f1.f1)).setCell ⟨gb, 3, none⟩ (.int .i64 ch.f2.f0)).setCell ⟨gb, 4, none⟩ (.int .i64 ch.f2.f1)).setCell ⟨gb, 5, none⟩ (.int .i64 ch.f3.f0)).setCell ⟨gb, 6, none⟩ (.int .i64 ch.f3.f1))) := ⟨(Ja46_ (j := 6) (v := .int .i64 ch.f3.f1) (Ja46_ (j := 5) (v := .int .i64 ch.f3.f0) (Ja46_ (j := 4) (v := .int .i64 ch.f2.f1) (Ja46_ (j := 3) (v := .int .i64 ch.f2.f0) (Ja46_ (j := 2) (v := .int .i64 ch.f1.f1) (Ja46_ (j := 1) (v := .int .i64 ch.f1.f0) (Ja46_ (j := 0) (v := .bool ch.f0) HB5.out GE.out) GE.out) GE.out) GE.out) GE.out) GE.out) GE.out)⟩
      clear y0 y1 y2 y3 y4 y5 y6 x0 x1 x2 x3 x4 x5 x6 u0 u1 u2 hne hne' hx0 hx1 hx2 hx3 hx4 hx5 hx6
      generalize (((((((w5.setCell ⟨gb, 0, none⟩ (.bool ch.f0)).setCell ⟨gb, 1, none⟩ (.int .i64 ch.f1.f0)).setCell ⟨gb, 2, none⟩ (.int .i64 ch.f1.f1)).setCell ⟨gb, 3, none⟩ (.int .i64 ch.f2.f0)).setCell ⟨gb, 4, none⟩ (.int .i64 ch.f2.f1)).setCell ⟨gb, 5, none⟩ (.int .i64 ch.f3.f0)).setCell ⟨gb, 6, none⟩ (.int .i64 ch.f3.f1)) = w6 at HB6 ⊢
      have HB6' := Ja38_.mk (Ja44_ HW.out.below HB6.out)
      refine (J2_.calls k A0_0 c0_0 l0_0 A0_1 c0_1 l0_1 A0_2 c0_2 l0_2 ch.f0 ch.f1.f0 ch.f1.f1 ch.f2.f0 ch.f2.f1 ch.f3.f0 ch.f3.f1 t0 t1 t2 t3 t4 t5 t6 b1 b2 b3 cls w6 (Kd.C_below HA0.out.1 HB6'.out) HA0.out.2 (Kd.C_below HA1.out.1 HB6'.out) HA1.out.2 (Kd.C_below HA2.out.1 HB6'.out) HA2.out.2 HCT.out).mono ?_
      rintro e w7 ⟨v7, v8, v9, rfl, ho0, ho1, ho2, hb⟩
      obtain ⟨A7, c7, rfl, hl7, _⟩ := Kd.R_reads ho0
      obtain ⟨A8, c8, rfl, hl8, _⟩ := Kd.R_reads ho1
      obtain ⟨A9, c9, rfl, hl9, _⟩ := Kd.R_reads ho2
      have HX := Ja38_.mk (Bld.cut HW.out (Ja44_ HB6.out hb) HB6.out.size ho0 ho1 ho2)
      have HF7 := Ja38_.mk (F_cut (ok := fun k => w4.heap.size ≤ k) (g := g) (Q := fun k => some k = (Value.slice A7 b1.length c7).ownBlock ∨ some k = (Value.slice A8 b2.length c8).ownBlock ∨ some k = (Value.slice A9 b3.length c9).ownBlock) (Nat.lt_of_lt_of_le (blk_lt HW.out.blk) HB6.out.size) ho0 (fun _ h => Or.inl h))
      have HF8 := Ja38_.mk (F_cut (ok := fun k => w4.heap.size ≤ k) (g := g) (Q := fun k => some k = (Value.slice A7 b1.length c7).ownBlock ∨ some k = (Value.slice A8 b2.length c8).ownBlock ∨ some k = (Value.slice A9 b3.length c9).ownBlock) (Nat.lt_of_lt_of_le (blk_lt HW.out.blk) HB6.out.size) ho1 (fun _ h => Or.inr (Or.inl h)))
      have HF9 := Ja38_.mk (F_cut (ok := fun k => w4.heap.size ≤ k) (g := g) (Q := fun k => some k = (Value.slice A7 b1.length c7).ownBlock ∨ some k = (Value.slice A8 b2.length c8).ownBlock ∨ some k = (Value.slice A9 b3.length c9).ownBlock) (Nat.lt_of_lt_of_le (blk_lt HW.out.blk) HB6.out.size) ho2 (fun _ h => Or.inr (Or.inr h)))
      have HR7 := Ja38_.mk (HFR.out.trans (Fr.of_below (Ja44_ HB6.out hb)))
      have HL7 := Ja38_.mk (And.intro hl7 (And.intro hl8 hl9))
      clear ho0 ho1 ho2 hl7 hl8 hl9 hb
      go_wp2_with fail
      refine (J5_.favoured k g _ v z116 0 3 l t0 t1 t2 t3 t4 t5 t6 cls A7 c7 b1 A8 c8 b2 A9 c9 b3 w w7 HX.out HF7.out HL7.out.1 HF8.out HL7.out.2.1 HF9.out HL7.out.2.2 HCL.out (by decide) (by have := HLL.out; omega) s HS.out).mono ?_
      rintro e w8 ⟨rfl, ⟨v', hW⟩, hfr⟩
      have HW8 := Ja38_.mk (hW.widen (ok := fun k => w4.heap.size ≤ k) (fun k e => e.1) HW.out.nog)
      have HR8 := Ja38_.mk (HR7.out.trans (hfr.mono (fun k e => e.1)))
      clear hW hfr
      go_wp2_with fail
      go_roundg k1
      case measure => omega
      case rel => exact ⟨v', _, i + 1, by rw [HWI.out], ⟨by have := HI.out; omega⟩, HW8, HR8, HGN⟩
    | zero =>
      have hil : ¬ i < l1.length := by have := HI.out; omega
      have lt1 : decide ((i : Int) < (l1.length : Int)) = false := decide_eq_false (by omega)
      have lt1n : decide (i < l1.length) = false := decide_eq_false hil
      have hg := HG.out
      rw [List.drop_of_length_le (by omega)] at hg
      unfold docGo at hg
      simp only [Option.some.injEq] at hg
      subst hg
      obtain ⟨Av, cv, rfl, hlv, hCv⟩ := Kd.R_reads HW.out.own
      have HCv := Ja38_.mk (And.intro hlv hCv)
      clear hlv hCv hil
      have hg5 := (Ja39_ HW.out.blk 5).trans (show _ = some (Value.slice Av _ cv) from rfl)
      go_wp2_with fail
      refine (doc_Of.calls k Av cv _ d wr HCv.out.2 HCv.out.1 HD.out).mono ?_
      rintro e w9 ⟨v0, rfl, hR, hb⟩
      have HRR := Ja38_.mk (Kd.R_lower hR (Ja45_ HW.out.below))
      have HBB := Ja38_.mk (Ja44_ HW.out.below hb)
      clear hR hb
      go_wp2_with fail
      go_ret2
      exact ⟨v0, rfl, HRR.out, HBB.out⟩
end Go.Proofs.Ytadafplbgophfaa.PA
end
section
namespace Go.Proofs.Ytadafplbgophfaa.PA
set_option linter.unusedSimpArgs false
set_option linter.unusedVariables false
open Go.RowKit Go.Proofs.YtadafplbgophfaaW.PrintWords Go.Proofs.YtadafplbgophfaaW.PrintLast Go.Proofs.YtadafplbgophfaaW.PrintMore
namespace FavT
def catL (l : List ByteArray) : List UInt8 := l.flatMap (·.data.toList)
def cat (l : List ByteArray) : ByteArray := ⟨(catL l).toArray⟩
theorem catL_nil : catL [] = [] := rfl
theorem catL_cons (x : ByteArray) (l : List ByteArray) : catL (x :: l) = x.data.toList ++ catL l := by simp [catL]
theorem catL_app (a b : List ByteArray) : catL (a ++ b) = catL a ++ catL b := by simp [catL]
theorem catL_flat (ls : List (List ByteArray)) : catL ls.flatten = (ls.map catL).flatten := by
  induction ls with
  | nil => rfl
  | cons x r ih => rw [List.flatten_cons, catL_app, ih, List.map_cons, List.flatten_cons]
theorem dlen (s : ByteArray) : s.data.toList.length = s.size := by simp
theorem catL_len (n : Nat) : ∀ (l : List ByteArray), (∀ x ∈ l, x.size ≤ n) → (catL l).length ≤ l.length * n
  | [], _ => by simp [catL]
  | x :: l, h => by
    have h1 := h x (List.mem_cons_self ..)
    have h2 := catL_len n l (fun y hy => h y (List.mem_cons_of_mem _ hy))
    rw [catL_cons, List.length_append, dlen, List.length_cons, Nat.succ_mul]
    omega
theorem joined_cat (l : List ByteArray) : joined l ⟨#[]⟩ = catL l := by
  unfold joined
  cases l with
  | nil => rfl
  | cons x r =>
    rw [List.map_cons, Lib.join_cons, catL_cons]
    congr 1
    unfold Lib.joinTail catL
    rw [List.flatMap_def]
    congr 1
    simp
theorem join_ok (k : Nat) (l : List ByteArray) (h : l.length ≤ 1000) (hz : ∀ x ∈ l, x.size ≤ 200) : J12_.f k l = some (cat l) := by
  have := catL_len 200 l hz
  unfold J12_.f J16_.f
  rw [joined_cat, if_pos ⟨by omega, by omega⟩]
  rfl
theorem cut_ok (k : Nat) (a b : Int) (l : List ByteArray) (h : l.length ≤ 1000) : J8_.f k a b l = some (J34_.f a b l) := by
  unfold J8_.f J34_.f J13_.f
  by_cases h1 : a < 0
  · rw [if_pos h1, if_pos h1]
  · rw [if_neg h1, if_neg h1]
    by_cases h2 : b > (l.length : Int)
    · rw [if_pos h2, if_pos h2]
    · rw [if_neg h2, if_neg h2]
      by_cases h3 : b < a
      · rw [if_pos h3, if_pos h3]
      · rw [if_neg h3, if_neg h3, if_pos (by omega), if_pos (by omega), if_pos (by omega), if_pos (by rw [List.length_drop, List.length_take]; omega)]
        rfl
theorem cut_len (a b : Int) (l : List ByteArray) : (J34_.f a b l).length ≤ l.length := by
  unfold J34_.f
  repeat' split
  all_goals first | exact Nat.zero_le _ | (rw [List.length_drop, List.length_take]; omega)
theorem cut_mem (a b : Int) (l : List ByteArray) : ∀ x ∈ J34_.f a b l, x ∈ l := by
  unfold J34_.f
  repeat' split
  all_goals intro x hx
  all_goals first | (simp at hx; done) | exact List.mem_of_mem_take (List.mem_of_mem_drop hx)
theorem drop_eq (a b : List ByteArray) {i : Nat} (ha : i < a.length) (hb : i < b.length) : (a.drop i = b.drop i) ↔ (a[i] = b[i] ∧ a.drop (i + 1) = b.drop (i + 1)) := by
  rw [List.drop_eq_getElem_cons ha, List.drop_eq_getElem_cons hb, List.cons.injEq]
theorem rdOf_nat (l : List ByteArray) {i : Nat} (h : i < l.length) : rdOf ByteArray.empty l (i : Int) = l[i] := by simp [rdOf, List.getD_eq_getElem?_getD, h]
theorem eq_ok (a b : List ByteArray) (ha : a.length ≤ 1000) : Ev (fun k => J14_.f k a b) (decide (a = b)) := by
  by_cases hl : a.length = b.length
  · refine Ev.congr (f := fun k => J14_.l0 k a b (a.length : Int) ((0 : Nat) : Int)) (fun k => by unfold J14_.f; rw [if_pos (by omega)]; rfl) ?_
    have := Chk.down (P := fun i => Ev (fun k => J14_.l0 k a b (a.length : Int) (i : Int)) (decide (a.drop i = b.drop i))) a.length (by
      refine Ev.step (f := fun _ => some true) (fun k => ?_) (by rw [List.drop_of_length_le (Nat.le_refl _), List.drop_of_length_le (by omega)]; exact Ev.now _)
      simp only [J14_.l0]; rw [if_neg (by omega)]) (fun i hi ih => by
      have hib : i < b.length := by omega
      by_cases he : a[i] = b[i]
      · refine Ev.step (f := fun k => J14_.l0 k a b (a.length : Int) ((i + 1 : Nat) : Int)) (fun k => ?_) (by
          rw [show decide (a.drop i = b.drop i) = decide (a.drop (i + 1) = b.drop (i + 1)) from by congr 1; exact propext ((drop_eq a b hi hib).trans ⟨fun h => h.2, fun h => ⟨he, h⟩⟩)]; exact ih)
        simp only [J14_.l0]
        rw [if_pos (by omega), if_pos (by omega), if_pos (by omega), if_pos (by omega), rdOf_nat a hi, rdOf_nat b hib, if_pos (by rw [he]), up64 (by omega)]
      · refine Ev.step (f := fun k => some false) (fun k => ?_) (by
          rw [decide_eq_false (fun h => he ((drop_eq a b hi hib).1 h).1)]; exact Ev.now _)
        simp only [J14_.l0]
        rw [if_pos (by omega), if_pos (by omega), if_pos (by omega), if_pos (by omega), rdOf_nat a hi, rdOf_nat b hib, if_neg (fun h => he (str_eq.1 h))]) 0 (Nat.zero_le _)
    rw [List.drop_zero, List.drop_zero] at this
    exact this
  · rw [decide_eq_false (fun h => hl (by rw [h]))]
    exact Ev.congr (fun k => if_neg (by omega)) (Ev.now _)
theorem same_ok (a b : List ByteArray) (ha : a.length ≤ 1000) : Ev (fun k => J29_.f k a b) (decide (a = b)) := by
  by_cases hl : a.length = b.length
  · refine Ev.congr (f := fun k => J29_.l0 k a b ((0 : Nat) : Int)) (fun k => by unfold J29_.f; rw [if_pos (by omega)]; rfl) ?_
    have := Chk.down (P := fun i => Ev (fun k => J29_.l0 k a b (i : Int)) (decide (a.drop i = b.drop i))) a.length (by
      refine Ev.step (f := fun _ => some true) (fun k => ?_) (by rw [List.drop_of_length_le (Nat.le_refl _), List.drop_of_length_le (by omega)]; exact Ev.now _)
      simp only [J29_.l0]; rw [if_neg (by omega)]) (fun i hi ih => by
      have hib : i < b.length := by omega
      by_cases he : a[i] = b[i]
      · refine Ev.step (f := fun k => J29_.l0 k a b ((i + 1 : Nat) : Int)) (fun k => ?_) (by
          rw [show decide (a.drop i = b.drop i) = decide (a.drop (i + 1) = b.drop (i + 1)) from by congr 1; exact propext ((drop_eq a b hi hib).trans ⟨fun h => h.2, fun h => ⟨he, h⟩⟩)]; exact ih)
        simp only [J29_.l0]
        rw [if_pos (by omega), if_pos (by omega), if_pos (by omega), rdOf_nat a hi, rdOf_nat b hib, if_pos (by rw [he]), up64 (by omega)]
      · refine Ev.step (f := fun k => some false) (fun k => ?_) (by
          rw [decide_eq_false (fun h => he ((drop_eq a b hi hib).1 h).1)]; exact Ev.now _)
        simp only [J29_.l0]
        rw [if_pos (by omega), if_pos (by omega), if_pos (by omega), rdOf_nat a hi, rdOf_nat b hib, if_neg (fun h => he (str_eq.1 h))]) 0 (Nat.zero_le _)
    rw [List.drop_zero, List.drop_zero] at this
    exact this
  · rw [decide_eq_false (fun h => hl (by rw [h]))]
    exact Ev.congr (fun k => if_neg (by omega)) (Ev.now _)
def cls (st : Bool) (x y z : List ByteArray) : Int := if st = true then 0 else if x = y then 2 else if x = z then 1 else if y = z then 3 else 4
theorem cls_five (st : Bool) (x y z : List ByteArray) : cls st x y z = 0 ∨ cls st x y z = 1 ∨ cls st x y z = 2 ∨ cls st x y z = 3 ∨ cls st x y z = 4 := by
  unfold cls; repeat' split
  all_goals simp
theorem ev_ite {α : Type} {p : Prop} [Decidable p] {f g : Nat → Option α} {a b : α} (h1 : Ev f a) (h2 : Ev g b) : Ev (fun k => if decide p = true then f k else g k) (if p then a else b) := by
  by_cases h : p
  · rw [if_pos h]; exact Ev.congr (fun k => if_pos (decide_eq_true h)) h1
  · rw [if_neg h]; exact Ev.congr (fun k => if_neg (by simp [h])) h2
theorem class_ok (st : Bool) (x y z : List ByteArray) (hx : x.length ≤ 1000) (hy : y.length ≤ 1000) : Ev (fun k => J33_.g k st x y z) (cls st x y z) := by
  unfold cls J33_.g
  cases st with
  | true => exact Ev.now _
  | false =>
    exact Ev.bind (same_ok x y hx) (ev_ite (Ev.now _) (Ev.bind (same_ok x z hx) (ev_ite (Ev.now _) (Ev.bind (same_ok y z hy) (ev_ite (Ev.now _) (Ev.now _))))))
theorem tsame_ok (a b : List ByteArray) (ha : a.length ≤ 1000) : Ev (fun k => J18_.f k a b) (decide (a = b)) := Ev.bind (eq_ok a b ha) (Ev.now _)
section
variable (l0 l1 l2 : List ByteArray)
def cA (c : S81) := J34_.f c.f1.f0 c.f1.f1 l0
def cB (c : S81) := J34_.f c.f2.f0 c.f2.f1 l1
def cC (c : S81) := J34_.f c.f3.f0 c.f3.f1 l2
def kls (c : S81) : Int := cls c.f0 (cA l0 c) (cB l1 c) (cC l2 c)
def pick (fav : Int) (c : S81) : List ByteArray := chosen (kls l0 l1 l2 c) fav (cA l0 c) (cB l1 c) (cC l2 c)
def up (c : S81) : S78 := ⟨c.f0, ⟨c.f1.f0, c.f1.f1⟩, ⟨c.f2.f0, c.f2.f1⟩, ⟨c.f3.f0, c.f3.f1⟩⟩
variable {l0 l1 l2} (n0 : l0.length ≤ 200) (n1 : l1.length ≤ 200) (n2 : l2.length ≤ 200) (z0 : ∀ x ∈ l0, x.size ≤ 200) (z1 : ∀ x ∈ l1, x.size ≤ 200) (z2 : ∀ x ∈ l2, x.size ≤ 200)
include n0 n1 n2
theorem pclass_ok (c : S81) : Ev (fun k => J7_.f k c.f0 c.f1.f0 c.f1.f1 c.f2.f0 c.f2.f1 c.f3.f0 c.f3.f1 l0 l1 l2) (kls l0 l1 l2 c) := by
  have ha := cut_len c.f1.f0 c.f1.f1 l0
  have hb := cut_len c.f2.f0 c.f2.f1 l1
  have ea : ∀ k, J8_.f k c.f1.f0 c.f1.f1 l0 = some (cA l0 c) := fun k => cut_ok k _ _ _ (by omega)
  have eb : ∀ k, J8_.f k c.f2.f0 c.f2.f1 l1 = some (cB l1 c) := fun k => cut_ok k _ _ _ (by omega)
  have ec : ∀ k, J8_.f k c.f3.f0 c.f3.f1 l2 = some (cC l2 c) := fun k => cut_ok k _ _ _ (by omega)
  unfold J7_.f kls cls
  simp only [ea, eb, ec, Option.bind_some]
  cases c.f0 with
  | true => exact Ev.now _
  | false =>
    exact Ev.bind (tsame_ok (cA l0 c) (cB l1 c) (by unfold cA; omega)) (ev_ite (Ev.now _) (Ev.bind (tsame_ok (cA l0 c) (cC l2 c) (by unfold cA; omega)) (ev_ite (Ev.now _) (Ev.bind (tsame_ok (cB l1 c) (cC l2 c) (by unfold cB; omega)) (ev_ite (Ev.now _) (Ev.now _))))))
omit n2 in
theorem rclass_ok (c : S81) : Ev (fun k => J33_.f k c.f0 c.f1.f0 c.f1.f1 c.f2.f0 c.f2.f1 c.f3.f0 c.f3.f1 l0 l1 l2) (kls l0 l1 l2 c) := by
  have ha := cut_len c.f1.f0 c.f1.f1 l0
  have hb := cut_len c.f2.f0 c.f2.f1 l1
  exact class_ok c.f0 _ _ _ (by omega) (by omega)
theorem pcut_ok (c : S81) : Ev (fun k => J2_.f k l0 l1 l2 (up c).f0 (up c).f1.f0 (up c).f1.f1 (up c).f2.f0 (up c).f2.f1 (up c).f3.f0 (up c).f3.f1) (c.f0, c.f1.f0, c.f1.f1, c.f2.f0, c.f2.f1, c.f3.f0, c.f3.f1, cA l0 c, cB l1 c, cC l2 c, kls l0 l1 l2 c) := by
  refine Ev.congr (f := fun k => (J7_.f k c.f0 c.f1.f0 c.f1.f1 c.f2.f0 c.f2.f1 c.f3.f0 c.f3.f1 l0 l1 l2).bind fun t => some (c.f0, c.f1.f0, c.f1.f1, c.f2.f0, c.f2.f1, c.f3.f0, c.f3.f1, cA l0 c, cB l1 c, cC l2 c, t)) (fun k => ?_) (Ev.bind (pclass_ok n0 n1 n2 c) (Ev.now _))
  unfold J2_.f up
  rw [cut_ok k _ _ l0 (by omega), cut_ok k _ _ l1 (by omega), cut_ok k _ _ l2 (by omega)]
  rfl
include z0 z1 z2
theorem pick_ok (fav : Int) (c : S81) : (pick l0 l1 l2 fav c).length ≤ 200 ∧ ∀ x ∈ pick l0 l1 l2 fav c, x.size ≤ 200 := by
  have ha : (cA l0 c).length ≤ l0.length := cut_len _ _ _
  have hb : (cB l1 c).length ≤ l1.length := cut_len _ _ _
  have hc : (cC l2 c).length ≤ l2.length := cut_len _ _ _
  unfold pick chosen
  repeat' split
  · exact ⟨by omega, fun x hx => z0 x (cut_mem _ _ _ x hx)⟩
  · exact ⟨by omega, fun x hx => z1 x (cut_mem _ _ _ x hx)⟩
  · exact ⟨by omega, fun x hx => z2 x (cut_mem _ _ _ x hx)⟩
theorem docGo_ok (fav : Int) : ∀ (cs : List S81) (acc : List S120), acc.length + cs.length ≤ 100000 → Ev (fun k => docGo k fav l0 l1 l2 (cs.map up) acc) (acc ++ cs.map (fun c => textPart (cat (pick l0 l1 l2 fav c))))
  | [], acc, _ => by rw [List.map_nil, List.map_nil, List.append_nil]; exact Ev.now _
  | c :: cs, acc, h => by
    rw [List.length_cons] at h
    obtain ⟨p1, p2⟩ := pick_ok n0 n1 n2 z0 z1 z2 fav c
    have ih := docGo_ok fav cs (acc ++ [textPart (cat (pick l0 l1 l2 fav c))]) (by rw [List.length_append, List.length_singleton]; omega)
    rw [List.append_assoc] at ih
    refine Ev.congr (fun k => if_pos (by omega)) (Ev.bind (pcut_ok n0 n1 n2 c) (Ev.congr (fun k => if_pos (cls_five _ _ _ _)) ?_))
    exact Ev.bind (Ev.congr (fun k => join_ok k (pick l0 l1 l2 fav c) (by omega) p2) (Ev.now _)) ih
end
theorem chunks_go (cs : List S81) (hc : cs.length ≤ 1000) : Ev (fun k => J22_.f k cs) (cs.map up) := by
  have := Chk.down (P := fun i => Ev (fun k => J22_.l0 k cs ((cs.take i).map up) (i : Int)) (cs.map up)) cs.length (by
    refine Ev.step (f := fun _ => some (cs.map up)) (fun k => ?_) (Ev.now _)
    simp only [J22_.l0]; rw [if_neg (by omega), List.take_length]) (fun i hi ih => by
    refine Ev.step (f := fun k => J22_.l0 k cs ((cs.take (i + 1)).map up) ((i + 1 : Nat) : Int)) (fun k => ?_) ih
    have e : rd_T81 cs (i : Int) = cs[i] := by simp [rd_T81, List.getD_eq_getElem?_getD, hi]
    simp only [J22_.l0]
    rw [if_pos (by omega), if_pos (by omega), e]
    show (if ((cs.take i).map up).length < 2513169434916 then _ else _) = _
    rw [if_pos (by rw [List.length_map, List.length_take]; omega), up64 (by omega), List.take_succ_eq_append_getElem hi, List.map_append]
    rfl) 0 (Nat.zero_le _)
  exact this
theorem to_ok (l0 l1 l2 : List ByteArray) (n0 : l0.length ≤ 200) (n1 : l1.length ≤ 200) (n2 : l2.length ≤ 200) : J24_.f l0 l1 l2 = some (l0, l1, l2) := by
  unfold J24_.f
  simp only [Option.bind_some, List.nil_append, List.length_nil]
  rw [if_pos (by omega), if_pos (by omega), if_pos (by omega)]
theorem ba_app (a b : ByteArray) : (a ++ b).data.toList = a.data.toList ++ b.data.toList := by simp
theorem ba_ext {a b : ByteArray} (h : a.data.toList = b.data.toList) : a = b := by
  cases a; cases b; simp at h; simp [h]
def docT (x : ByteArray) : List S120 := if x.toList = [] then [] else [textPart x]
theorem emp0 : (⟨#[]⟩ : ByteArray).toList = [] := by rw [ByteArray.toList_eq]
theorem istext (s : ByteArray) : J11_.f (textPart s).f0.f0 (textPart s).f0.f1 (textPart s).f0.f2 (textPart s).f1 (textPart s).f2 (textPart s).f3 (textPart s).f4 (textPart s).f5 (textPart s).f6 = some true := by simp [J11_.f, textPart, z116, emp0]
theorem of_ok (ts : List ByteArray) (hn : ts.length ≤ 1000) (hz : ∀ t ∈ ts, t.size ≤ 1000000) : Ev (fun k => doc_Of.f k (ts.map textPart)) (docT (cat ts)) := by
  have hx : (ts.map textPart).length = ts.length := List.length_map _
  have key : ∀ (n i : Nat) (x : ByteArray), ts.length - i ≤ n → i ≤ ts.length → x.size ≤ i * 1000000 → Ev (fun k => doc_Of.l0 k (docT x) (ts.map textPart) ((ts.map textPart).length : Int) i) (docT ⟨(x.data.toList ++ catL (ts.drop i)).toArray⟩) := by
    intro n
    induction n with
    | zero =>
      intro i x h1 h2 h3
      refine Ev.step (f := fun _ => some (docT x)) (fun k => ?_) ?_
      · simp only [doc_Of.l0]; rw [if_neg (by omega)]
      · rw [List.drop_of_length_le (by omega), catL_nil, List.append_nil]; exact Ev.now _
    | succ n ih =>
      intro i x h1 h2 h3
      by_cases hi : i < ts.length
      rotate_left
      · refine Ev.step (f := fun _ => some (docT x)) (fun k => ?_) ?_
        · simp only [doc_Of.l0]; rw [if_neg (by omega)]
        · rw [List.drop_of_length_le (by omega), catL_nil, List.append_nil]; exact Ev.now _
      have hzi := hz _ (List.getElem_mem hi)
      have e : rd_T120 (ts.map textPart) (i : Int) = textPart ts[i] := by simp [rd_T120, List.getD_eq_getElem?_getD, hi]
      have ihn := ih (i + 1) (x ++ ts[i]) (by omega) (by omega) (by rw [ByteArray.size_append]; omega)
      rw [List.drop_eq_getElem_cons hi, catL_cons]
      rw [ba_app, List.append_assoc] at ihn
      generalize ts[i] = t at e ihn hzi
      refine Ev.step (fun k => ?_) ihn
      simp only [doc_Of.l0]
      rw [if_pos (by omega), if_pos (by omega), if_pos (by omega), e, w64 (x := (i : Int) + 1) (by omega) (by omega), istext, Option.bind_some]
      by_cases ht : t.toList = []
      · have et : x ++ t = x := ba_ext (by rw [ba_app, ← ByteArray.toList_eq t, ht, List.append_nil])
        rw [et]
        refine (if_pos ?_).trans rfl
        simp [textPart, z116, ht, emp0]
      · refine (if_neg ?_).trans ?_
        · simp [textPart, z116, ht, emp0]
        · rw [if_pos rfl]
          have hxt : (x ++ t).toList ≠ [] := by
            rw [ByteArray.toList_eq, ba_app]
            intro h
            exact ht (by rw [ByteArray.toList_eq]; exact (List.append_eq_nil_iff.1 h).2)
          have e2 : docT (x ++ t) = [textPart (x ++ t)] := if_neg hxt
          rw [e2]
          by_cases hxe : x.toList = []
          · have ed : docT x = [] := if_pos hxe
            have et : x ++ t = t := ba_ext (by rw [ba_app, ← ByteArray.toList_eq x, hxe, List.nil_append])
            rw [ed, et, if_neg (by simp), if_pos (by simp)]
            rfl
          · have ed : docT x = [textPart x] := if_neg hxe
            have e3 : rd_T120 [textPart x] 0 = textPart x := rfl
            rw [ed, if_pos (by simp), show wrap64 (((([textPart x] : List S120).length : Nat) : Int) - 1) = 0 from by simp [wrap64], if_pos (by omega), if_pos (by simp), e3, istext, Option.bind_some, if_pos rfl]
            refine (if_pos (show x.size + t.size ≤ 9223372036854775807 by omega)).trans ?_
            rfl
  have := key ts.length 0 ⟨#[]⟩ (by omega) (by omega) (Nat.zero_le 0)
  rw [show docT ⟨#[]⟩ = [] from if_pos emp0] at this
  exact this
theorem conf_ok (x : ByteArray) : Ev (fun k => J9_.f k (docT x)) 0 := by
  unfold docT
  split
  · exact Ev.of (J9_.mono _) (k := 5) rfl
  · exact Ev.of (J9_.mono _) (k := 5) (by first | kernel_rfl | simp [J9_.f, J9_.l0, rd_T120, textPart, wrap64])
theorem rjoin_ok (l : List ByteArray) (hn : l.length ≤ 1000) (hz : ∀ t ∈ l, t.size ≤ 1000000) : Ev (fun k => J27_.f k l) (cat l) := by
  have key : ∀ (n i : Nat) (x : ByteArray), l.length - i ≤ n → i ≤ l.length → x.size ≤ i * 1000000 → Ev (fun k => J27_.l0 k l x i) ⟨(x.data.toList ++ catL (l.drop i)).toArray⟩ := by
    intro n
    induction n with
    | zero =>
      intro i x h1 h2 h3
      refine Ev.step (f := fun _ => some x) (fun k => ?_) ?_
      · simp only [J27_.l0]; rw [if_neg (by omega)]
      · rw [List.drop_of_length_le (by omega), catL_nil, List.append_nil]; exact Ev.now _
    | succ n ih =>
      intro i x h1 h2 h3
      by_cases hi : i < l.length
      rotate_left
      · refine Ev.step (f := fun _ => some x) (fun k => ?_) ?_
        · simp only [J27_.l0]; rw [if_neg (by omega)]
        · rw [List.drop_of_length_le (by omega), catL_nil, List.append_nil]; exact Ev.now _
      have hzi := hz _ (List.getElem_mem hi)
      have e := rdOf_nat l hi
      have ihn := ih (i + 1) (x ++ l[i]) (by omega) (by omega) (by rw [ByteArray.size_append]; omega)
      rw [List.drop_eq_getElem_cons hi, catL_cons]
      rw [ba_app, List.append_assoc] at ihn
      refine Ev.step (fun k => ?_) ihn
      simp only [J27_.l0]
      rw [if_pos (by omega), if_pos (by omega), e, if_pos (by omega), up64 (by omega)]
  exact key l.length 0 ⟨#[]⟩ (by omega) (by omega) (Nat.zero_le 0)
end FavT
end Go.Proofs.Ytadafplbgophfaa.PA
end
section
namespace Go.Proofs.Ytadafplbgophfaa.PA
open Go.RowKit
namespace T58
def a : ByteArray := ⟨#[97, 10]⟩
def x : ByteArray := ⟨#[120, 10]⟩
def y : ByteArray := ⟨#[121, 10]⟩
def z : ByteArray := ⟨#[122, 10]⟩
def cs : List S81 := [⟨false, ⟨0, 1⟩, ⟨0, 2⟩, ⟨0, 2⟩⟩]
def ch : List S78 := [⟨false, ⟨0, 1⟩, ⟨0, 2⟩, ⟨0, 2⟩⟩]
def e : ByteArray := ⟨#[]⟩
def d : List S120 := [⟨⟨e, e, e⟩, false, x, e, e, e, false⟩, ⟨⟨⟨#[111]⟩, e, e⟩, true, e, y, a, z, true⟩]
theorem some_ok : J23_.f 40 ⟨#[97, 10]⟩ ⟨#[120, 10, 121, 10]⟩ ⟨#[120, 10, 122, 10]⟩ = some ([a], [x, y], [x, z], cs) := by kernel_rfl
theorem to_ok : J24_.f [a] [x, y] [x, z] = some ([a], [x, y], [x, z]) := by kernel_rfl
theorem chunks_ok : J22_.f 40 cs = some ch := by kernel_rfl
theorem doc_ok : J1_.f 40 [a] [x, y] [x, z] ch 2 ⟨#[111]⟩ ⟨#[]⟩ ⟨#[]⟩ 0 = some (d, 0) := by kernel_rfl
theorem count_ok : J0_.f 40 [a] [x, y] [x, z] ch = some 1 := by kernel_rfl
theorem facts : ∃ (l0 l1 l2 : List ByteArray) (cs : List S81) (ch : List S78) (d : List S120), J23_.f 40 ⟨#[97, 10]⟩ ⟨#[120, 10, 121, 10]⟩ ⟨#[120, 10, 122, 10]⟩ = some (l0, l1, l2, cs) ∧ J24_.f l0 l1 l2 = some (l0, l1, l2) ∧ J22_.f 40 cs = some ch ∧ J1_.f 40 l0 l1 l2 ch 2 ⟨#[111]⟩ ⟨#[]⟩ ⟨#[]⟩ 0 = some (d, 0) ∧ J0_.f 40 l0 l1 l2 ch = some 1 ∧
    d.length = 2 ∧ (rd_T120 d 0).f2 = ⟨#[120, 10]⟩ ∧ (rd_T120 d 1).f1 = true ∧ (rd_T120 d 1).f3 = ⟨#[121, 10]⟩ ∧ (rd_T120 d 1).f5 = ⟨#[122, 10]⟩ ∧ (rd_T120 d 1).f4 = ⟨#[97, 10]⟩ ∧ (rd_T120 d 1).f0.f0 = ⟨#[111]⟩ :=
  ⟨_, _, _, _, _, _, some_ok, to_ok, chunks_ok, doc_ok, count_ok, rfl, rfl, rfl, rfl, rfl, rfl, rfl⟩
end T58
end Go.Proofs.Ytadafplbgophfaa.PA
end
section
namespace Go.Proofs.Ytadafplbgophfaa.PA
set_option linter.unusedSimpArgs false
set_option linter.unusedVariables false
open Go.RowKit Go.Proofs.YtadafplbgophfaaW.PrintWords Go.Proofs.YtadafplbgophfaaW.PrintLast Go.Proofs.YtadafplbgophfaaW.PrintMore
set_option maxHeartbeats 8000000 in
set_option maxRecDepth 100000 in
theorem J26_.calls (w : World) : Calls Try.prog 58 #[] w fun e w' => e = .returned (.bool true) ∧ Below w.heap.size w w' := by
  obtain ⟨l0, l1, l2, cs, ch, d, h1, h2, h3, h4, h5, hd, g0, g1, g2, g3, g4, g5⟩ := T58.facts
  have F1 := Ja38_.mk h1
  have F2 := Ja38_.mk h2
  have F3 := Ja38_.mk h3
  have F4 := Ja38_.mk h4
  have F5 := Ja38_.mk h5
  have FD := Ja38_.mk (And.intro hd (And.intro g0 (And.intro g1 (And.intro g2 (And.intro g3 (And.intro g4 g5))))))
  clear h1 h2 h3 h4 h5 hd g0 g1 g2 g3 g4 g5
  have hu107 := Try.underlying107
  have hu116 := Try.underlying116
  have hu120 := Try.underlying120
  go_enter Try.func58, Try.ntmps58
  go_wp2_with fail
  refine (J23_.calls 40 _ _ _ l0 l1 l2 cs w F1.out).mono ?_
  rintro e w1 ⟨A0, A1, A2, A3, c0, c1, c2, c3, rfl, ⟨hC0, hL0⟩, ⟨hC1, hL1⟩, ⟨hC2, hL2⟩, ⟨hC3, hL3⟩, hB⟩
  have HA0 := Ja38_.mk hC0
  have HA1 := Ja38_.mk hC1
  have HA2 := Ja38_.mk hC2
  have HA3 := Ja38_.mk hC3
  have LA0 := Ja38_.mk hL0
  have LA1 := Ja38_.mk hL1
  have LA2 := Ja38_.mk hL2
  have LA3 := Ja38_.mk hL3
  have HB := Ja38_.mk hB
  clear hC0 hC1 hC2 hC3 hL0 hL1 hL2 hL3 hB
  go_wp2_with (first | ((with_reducible refine gate_dst (N := 1) rfl ?_); refine box_event ?hg (N := 1) ?hd (cs := #[.slice none 0 0, .slice none 0 0, .slice none 0 0]) (t := 107) ?hr ?_; (case hd => rfl); (case hg => rfl); (case hr => first | (go_simp; done) | (go_simp; rfl)); intro f1 hg w2 hbox hb; have B1 := Ja38_.mk hbox; have HB12 := Ja38_.mk hb; have GE1 := Ja38_.mk ((by rw [hg]; exact Ja45_ HB.out) : w.heap.size ≤ f1); have GE12 := Ja38_.mk (Nat.le_of_eq hg.symm : w1.heap.size ≤ f1); replace HB := Ja38_.mk (Ja44_ HB.out hb); have y0 := (Ja39_ hbox 0).trans (show _ = some (Value.slice none 0 0) from rfl); have y1 := (Ja39_ hbox 1).trans (show _ = some (Value.slice none 0 0) from rfl); have y2 := (Ja39_ hbox 2).trans (show _ = some (Value.slice none 0 0) from rfl); have x0 := Ja40_ hbox 0; have x1 := Ja40_ hbox 1; have x2 := Ja40_ hbox 2; clear hg hbox hb))
  have hb13 := below3 HB12.out GE12.out (.slice A0 l0.length c0) (.slice A1 l1.length c1) (.slice A2 l2.length c2)
  replace HA0 := Ja38_.mk (Kd.C_below HA0.out hb13)
  replace HA1 := Ja38_.mk (Kd.C_below HA1.out hb13)
  replace HA2 := Ja38_.mk (Kd.C_below HA2.out hb13)
  replace HA3 := Ja38_.mk (Kd.C_below HA3.out hb13)
  replace B1 := Ja38_.mk (fill3_107 B1.out (.slice A0 l0.length c0) (.slice A1 l1.length c1) (.slice A2 l2.length c2))
  replace HB := Ja38_.mk (below3 HB.out GE1.out (.slice A0 l0.length c0) (.slice A1 l1.length c1) (.slice A2 l2.length c2))
  clear hb13 HB12 GE12 GE1 y0 y1 y2 x0 x1 x2
  generalize (((w2.setCell ⟨f1, 0, none⟩ (.slice A0 l0.length c0)).setCell ⟨f1, 1, none⟩ (.slice A1 l1.length c1)).setCell ⟨f1, 2, none⟩ (.slice A2 l2.length c2)) = w3 at HA0 HA1 HA2 HA3 B1 HB ⊢
  refine (J24_.calls A0 c0 l0 A1 c1 l1 A2 c2 l2 l0 l1 l2 _ HA0.out LA0.out HA1.out LA1.out HA2.out LA2.out F2.out).mono ?_
  rintro e w4 ⟨v0, v1, v2, rfl, hR0, hR1, hR2, hb⟩
  obtain ⟨X0, Xc0, rfl, hc, hC⟩ := Kd.R_reads hR0
  have HX0 := Ja38_.mk hC
  have LX0 := Ja38_.mk hc
  clear hc hC
  obtain ⟨X1, Xc1, rfl, hc, hC⟩ := Kd.R_reads hR1
  have HX1 := Ja38_.mk hC
  have LX1 := Ja38_.mk hc
  clear hc hC
  obtain ⟨X2, Xc2, rfl, hc, hC⟩ := Kd.R_reads hR2
  have HX2 := Ja38_.mk hC
  have LX2 := Ja38_.mk hc
  clear hc hC
  replace HA0 := Ja38_.mk (Kd.C_below HA0.out hb)
  replace HA1 := Ja38_.mk (Kd.C_below HA1.out hb)
  replace HA2 := Ja38_.mk (Kd.C_below HA2.out hb)
  replace HA3 := Ja38_.mk (Kd.C_below HA3.out hb)
  replace B1 := Ja38_.mk (Ja47_ B1.out hb)
  replace HB := Ja38_.mk (Ja44_ HB.out hb)
  clear hR0 hR1 hR2 hb
  go_wp2_with fail
  refine (J22_.calls 40 A3 c3 cs ch _ HA3.out LA3.out F3.out).mono ?_
  rintro e w5 ⟨v0, rfl, hR, hb⟩
  obtain ⟨Y, Yc, rfl, hc, hC⟩ := Kd.R_reads hR
  have HY := Ja38_.mk hC
  have LY := Ja38_.mk hc
  replace HA0 := Ja38_.mk (Kd.C_below HA0.out hb)
  replace HA1 := Ja38_.mk (Kd.C_below HA1.out hb)
  replace HA2 := Ja38_.mk (Kd.C_below HA2.out hb)
  replace HA3 := Ja38_.mk (Kd.C_below HA3.out hb)
  replace HX0 := Ja38_.mk (Kd.C_below HX0.out hb)
  replace HX1 := Ja38_.mk (Kd.C_below HX1.out hb)
  replace HX2 := Ja38_.mk (Kd.C_below HX2.out hb)
  replace B1 := Ja38_.mk (Ja47_ B1.out hb)
  replace HB := Ja38_.mk (Ja44_ HB.out hb)
  clear hR hb hc hC
  go_wp2_with fail
  refine (J1_.calls 40 X0 Xc0 l0 X1 Xc1 l1 X2 Xc2 l2 Y Yc ch 2 _ _ _ 0 d 0 _ HX0.out LX0.out HX1.out LX1.out HX2.out LX2.out HY.out LY.out F4.out).mono ?_
  rintro e w6 ⟨v0, rfl, hR, hb⟩
  obtain ⟨D, Dc, rfl, hc, hC⟩ := Kd.R_reads hR
  replace HA0 := Ja38_.mk (Kd.C_below HA0.out hb)
  replace HA1 := Ja38_.mk (Kd.C_below HA1.out hb)
  replace HA2 := Ja38_.mk (Kd.C_below HA2.out hb)
  replace HA3 := Ja38_.mk (Kd.C_below HA3.out hb)
  replace HX0 := Ja38_.mk (Kd.C_below HX0.out hb)
  replace HX1 := Ja38_.mk (Kd.C_below HX1.out hb)
  replace HX2 := Ja38_.mk (Kd.C_below HX2.out hb)
  replace HY := Ja38_.mk (Kd.C_below HY.out hb)
  replace B1 := Ja38_.mk (Ja47_ B1.out hb)
  replace HB := Ja38_.mk (Ja44_ HB.out hb)
  clear hR hb hc
  obtain ⟨hd, g0, g1, g2, g3, g4, g5⟩ := FD.out
  obtain ⟨ad, ea, u0, u1, u2, u3, u4, u5, u6, u7, u8⟩ := at_T120 hC 0 (Int.le_refl _) (by omega)
  cases ea
  obtain ⟨ad', ea, z0, z1, z2, z3, z4, z5, z6, z7, z8⟩ := at_T120 hC 1 (by decide) (by omega)
  cases ea
  have e0 : ad.add ((0 : Int).toNat * 9) = ad := by simp [Addr.add]
  rw [e0, g0] at u4
  clear u0 u1 u2 u3 u5 u6 u7 u8 z1 z2 z4 z8 e0 hC
  rw [g5] at z0
  rw [g1] at z3
  rw [g2] at z5
  rw [g4] at z6
  rw [g3] at z7
  rw [hd]
  clear hd g0 g1 g2 g3 g4 g5
  have e1 : (1 : Int).toNat * 9 = 9 := rfl
  rw [e1] at z0 z3 z5 z6 z7
  clear e1
  replace z0 : w6.cell? ⟨ad.block, ad.off + 9, none⟩ = some (.string ⟨#[111]⟩) := by simpa [Addr.add] using z0
  replace z3 : w6.cell? ⟨ad.block, ad.off + 9 + 3, none⟩ = some (.bool true) := by simpa [Addr.add] using z3
  replace z5 : w6.cell? ⟨ad.block, ad.off + 9 + 5, none⟩ = some (.string ⟨#[121, 10]⟩) := by simpa [Addr.add] using z5
  replace z6 : w6.cell? ⟨ad.block, ad.off + 9 + 6, none⟩ = some (.string ⟨#[97, 10]⟩) := by simpa [Addr.add] using z6
  replace z7 : w6.cell? ⟨ad.block, ad.off + 9 + 7, none⟩ = some (.string ⟨#[122, 10]⟩) := by simpa [Addr.add] using z7
  have p0 := (Ja39_ B1.out 0).trans (show _ = some (Value.slice A0 l0.length c0) from rfl)
  have p1 := (Ja39_ B1.out 1).trans (show _ = some (Value.slice A1 l1.length c1) from rfl)
  have p2 := (Ja39_ B1.out 2).trans (show _ = some (Value.slice A2 l2.length c2) from rfl)
  go_wp2_with fail
  refine (J24_.calls A0 c0 l0 A1 c1 l1 A2 c2 l2 l0 l1 l2 _ HA0.out LA0.out HA1.out LA1.out HA2.out LA2.out F2.out).mono ?_
  rintro e w7 ⟨v0, v1, v2, rfl, hR0, hR1, hR2, hb⟩
  obtain ⟨Z0, Zc0, rfl, hc, hC⟩ := Kd.R_reads hR0
  have HZ0 := Ja38_.mk hC
  have LZ0 := Ja38_.mk hc
  clear hc hC
  obtain ⟨Z1, Zc1, rfl, hc, hC⟩ := Kd.R_reads hR1
  have HZ1 := Ja38_.mk hC
  have LZ1 := Ja38_.mk hc
  clear hc hC
  obtain ⟨Z2, Zc2, rfl, hc, hC⟩ := Kd.R_reads hR2
  have HZ2 := Ja38_.mk hC
  have LZ2 := Ja38_.mk hc
  clear hc hC
  replace HA0 := Ja38_.mk (Kd.C_below HA0.out hb)
  replace HA1 := Ja38_.mk (Kd.C_below HA1.out hb)
  replace HA2 := Ja38_.mk (Kd.C_below HA2.out hb)
  replace HA3 := Ja38_.mk (Kd.C_below HA3.out hb)
  replace HX0 := Ja38_.mk (Kd.C_below HX0.out hb)
  replace HX1 := Ja38_.mk (Kd.C_below HX1.out hb)
  replace HX2 := Ja38_.mk (Kd.C_below HX2.out hb)
  replace HY := Ja38_.mk (Kd.C_below HY.out hb)
  replace B1 := Ja38_.mk (Ja47_ B1.out hb)
  replace HB := Ja38_.mk (Ja44_ HB.out hb)
  clear hR0 hR1 hR2 hb
  clear u4 z0 z3 z5 z6 z7 p0 p1 p2
  go_wp2_with fail
  refine (J22_.calls 40 A3 c3 cs ch _ HA3.out LA3.out F3.out).mono ?_
  rintro e w8 ⟨v0, rfl, hR, hb⟩
  obtain ⟨V, Vc, rfl, hc, hC⟩ := Kd.R_reads hR
  have HV := Ja38_.mk hC
  have LV := Ja38_.mk hc
  replace HA0 := Ja38_.mk (Kd.C_below HA0.out hb)
  replace HA1 := Ja38_.mk (Kd.C_below HA1.out hb)
  replace HA2 := Ja38_.mk (Kd.C_below HA2.out hb)
  replace HA3 := Ja38_.mk (Kd.C_below HA3.out hb)
  replace HX0 := Ja38_.mk (Kd.C_below HX0.out hb)
  replace HX1 := Ja38_.mk (Kd.C_below HX1.out hb)
  replace HX2 := Ja38_.mk (Kd.C_below HX2.out hb)
  replace HY := Ja38_.mk (Kd.C_below HY.out hb)
  replace HZ0 := Ja38_.mk (Kd.C_below HZ0.out hb)
  replace HZ1 := Ja38_.mk (Kd.C_below HZ1.out hb)
  replace HZ2 := Ja38_.mk (Kd.C_below HZ2.out hb)
  replace B1 := Ja38_.mk (Ja47_ B1.out hb)
  replace HB := Ja38_.mk (Ja44_ HB.out hb)
  clear hR hb hc hC
  go_wp2_with fail
  refine (J0_.calls 40 Z0 Zc0 l0 Z1 Zc1 l1 Z2 Zc2 l2 V Vc ch 1 _ HZ0.out LZ0.out HZ1.out LZ1.out HZ2.out LZ2.out HV.out LV.out F5.out).mono ?_
  rintro e w9 ⟨rfl, hb⟩
  replace HA0 := Ja38_.mk (Kd.C_below HA0.out hb)
  replace HA1 := Ja38_.mk (Kd.C_below HA1.out hb)
  replace HA2 := Ja38_.mk (Kd.C_below HA2.out hb)
  replace HA3 := Ja38_.mk (Kd.C_below HA3.out hb)
  replace HX0 := Ja38_.mk (Kd.C_below HX0.out hb)
  replace HX1 := Ja38_.mk (Kd.C_below HX1.out hb)
  replace HX2 := Ja38_.mk (Kd.C_below HX2.out hb)
  replace HY := Ja38_.mk (Kd.C_below HY.out hb)
  replace HZ0 := Ja38_.mk (Kd.C_below HZ0.out hb)
  replace HZ1 := Ja38_.mk (Kd.C_below HZ1.out hb)
  replace HZ2 := Ja38_.mk (Kd.C_below HZ2.out hb)
  replace HV := Ja38_.mk (Kd.C_below HV.out hb)
  replace B1 := Ja38_.mk (Ja47_ B1.out hb)
  replace HB := Ja38_.mk (Ja44_ HB.out hb)
  clear hb
  go_wp2_with fail
  go_ret
  exact ⟨rfl, HB.out⟩
end Go.Proofs.Ytadafplbgophfaa.PA
end
section
namespace Go.Proofs.Ytadafplbgophfaa.PA
set_option linter.unusedSimpArgs false
set_option linter.unusedVariables false
open Go.RowKit Go.Proofs.YtadafplbgophfaaW.PrintWords Go.Proofs.YtadafplbgophfaaW.PrintLast Go.Proofs.YtadafplbgophfaaW.PrintMore
structure J15 where
  s : Nat
  A0 : Option Addr
  c0 : Nat
  A1 : Option Addr
  c1 : Nat
  A2 : Option Addr
  c2 : Nat
  A3 : Option Addr
  c3 : Nat
theorem alloc_gen15 {P : World → Prop} {W : World} {cs : Array Value} {t : TypeId} (h : ∀ W', W'.heap[W.heap.size]? = some (.cells cs t (0, 0)) → Below W.heap.size W W' → P W') : P (W.alloc (.cells cs t (0, 0))) := h _ (blk_new W _) (Ja43_ (Below.refl _ _) _)
theorem hold10_15 {W w' : World} {a0 a1 a2 a3 a4 a5 a6 a7 a8 a9 : Addr} {v0 v1 v2 v3 v4 v5 v6 v7 v8 v9 : Value} (hb : Below W.heap.size W w') (h : W.cell? a0 = some v0 ∧ W.cell? a1 = some v1 ∧ W.cell? a2 = some v2 ∧ W.cell? a3 = some v3 ∧ W.cell? a4 = some v4 ∧ W.cell? a5 = some v5 ∧ W.cell? a6 = some v6 ∧ W.cell? a7 = some v7 ∧ W.cell? a8 = some v8 ∧ W.cell? a9 = some v9) : w'.cell? a0 = some v0 ∧ w'.cell? a1 = some v1 ∧ w'.cell? a2 = some v2 ∧ w'.cell? a3 = some v3 ∧ w'.cell? a4 = some v4 ∧ w'.cell? a5 = some v5 ∧ w'.cell? a6 = some v6 ∧ w'.cell? a7 = some v7 ∧ w'.cell? a8 = some v8 ∧ w'.cell? a9 = some v9 := ⟨Ja51_ hb h.1, Ja51_ hb h.2.1, Ja51_ hb h.2.2.1, Ja51_ hb h.2.2.2.1, Ja51_ hb h.2.2.2.2.1, Ja51_ hb h.2.2.2.2.2.1, Ja51_ hb h.2.2.2.2.2.2.1, Ja51_ hb h.2.2.2.2.2.2.2.1, Ja51_ hb h.2.2.2.2.2.2.2.2.1, Ja51_ hb h.2.2.2.2.2.2.2.2.2⟩
structure Fav (k : Nat) (t0 t1 t2 s0 s1 s2 : ByteArray) (l0 l1 l2 own : List ByteArray) (cs : List S81) (ch : List S78) (d : List S120) (fav : Int) : Prop where
  h0 : J25_.f t0 = some s0
  h1 : J25_.f t1 = some s1
  h2 : J25_.f t2 = some s2
  hs : J23_.f k s0 s1 s2 = some (l0, l1, l2, cs)
  ht : J24_.f l0 l1 l2 = some (l0, l1, l2)
  hc : J22_.f k cs = some ch
  hd : docFav k l0 l1 l2 ch fav = some d
  hn : J9_.f k d = some 0
  hl : d.length ≤ 1
  hk : ∀ c ∈ cs, ∃ i, J33_.f k c.f0 c.f1.f0 c.f1.f1 c.f2.f0 c.f2.f1 c.f3.f0 c.f3.f1 l0 l1 l2 = some i
  he : (∀ c ∈ cs, J33_.f k c.f0 c.f1.f0 c.f1.f1 c.f2.f0 c.f2.f1 c.f3.f0 c.f3.f1 l0 l1 l2 = some 0 ∨ J33_.f k c.f0 c.f1.f0 c.f1.f1 c.f2.f0 c.f2.f1 c.f3.f0 c.f3.f1 l0 l1 l2 = some 4) → ∃ s, J27_.f k own = some s ∧ ((s = ⟨#[]⟩ ∧ d = []) ∨ (d.length = 1 ∧ (rd_T120 d 0).f2 = s))
def J21_.T1 : Bool × List (List Nat × List Nat) := (true, [([], []), ([0], [0]), ([1], [1]), ([], []), ([3], [3]), ([4, 2], [4]), ([], []), ([6], [6]), ([7, 5], [7]), ([2, 5, 8, 8], [2, 5, 8]), ([9], [9]), ([10], [10]), ([10], [10]), ([], []), ([13, 11, 9, 0, 1, 2, 3, 4, 5, 6, 7, 8, 9, 10, 11, 13], [11, 13]), ([12, 14, 0, 1, 2, 3, 4, 5, 6, 7, 8, 9, 10, 11, 12, 13, 14], [12])])
def J21_.B1 : List Nat := [0, 1, 3, 0, 8, 31, 0, 64, 255, 511, 1023, 2047, 2047, 0, 12287, 32767]
theorem J21_.tab1 : rtab .any (opsOf Try.f15 1) = J21_.T1 := by kernel_rfl
theorem J21_.bits1 : waitsOk J21_.T1.2 J21_.B1 = true := by kernel_rfl
def J21_.T2 : Bool × List (List Nat × List Nat) := (true, [([], []), ([0], [0]), ([], []), ([1, 2, 0, 1, 2], [1])])
def J21_.B2 : List Nat := [0, 1, 0, 7]
theorem J21_.tab2 : rtab .any (opsOf Try.f15 2) = J21_.T2 := by kernel_rfl
theorem J21_.bits2 : waitsOk J21_.T2.2 J21_.B2 = true := by kernel_rfl
def J21_.T4 : Bool × List (List Nat × List Nat) := (true, [([], []), ([0], [0]), ([], []), ([1, 2, 0, 1, 2], [1])])
def J21_.B4 : List Nat := [0, 1, 0, 7]
theorem J21_.tab4 : rtab .any (opsOf Try.f15 4) = J21_.T4 := by kernel_rfl
theorem J21_.bits4 : waitsOk J21_.T4.2 J21_.B4 = true := by kernel_rfl
def J21_.T11 : Bool × List (List Nat × List Nat) := (true, [([], []), ([], []), ([0, 1], [0, 1]), ([2], [2]), ([], []), ([4], [4]), ([], []), ([6], [6]), ([], []), ([8], [8]), ([3, 5, 7, 9], [3, 5, 7, 9]), ([10, 10, 0, 1, 2, 3, 4, 5, 6, 7, 8, 9, 10], [10])])
def J21_.B11 : List Nat := [0, 0, 3, 7, 0, 16, 0, 64, 0, 256, 1023, 2047]
theorem J21_.tab11 : rtab .any (opsOf Try.f15 11) = J21_.T11 := by kernel_rfl
theorem J21_.bits11 : waitsOk J21_.T11.2 J21_.B11 = true := by kernel_rfl
set_option maxHeartbeats 8000000 in
set_option maxRecDepth 100000 in
theorem J21_.calls (left : Bool) (k : Nat) (t0 t1 t2 s0 s1 s2 : ByteArray) (l0 l1 l2 : List ByteArray) (cs : List S81) (ch : List S78) (d : List S120) (w : World) (h : Fav k t0 t1 t2 s0 s1 s2 l0 l1 l2 (if left = true then l1 else l2) cs ch d (if left = true then 1 else 3)) :
    Calls Try.prog 15 #[.agg #[.string t0, .string t1, .string t2], .bool left] w fun e w' => e = .returned (.bool true) ∧ Below w.heap.size w w' := by
  have hu105 := Try.underlying105
  have hu107 := Try.underlying107
  have hu116 := Try.underlying116
  have hu120 := Try.underlying120
  have hu81 := Try.underlying81
  have H := Ja38_.mk h
  clear h
  go_enter Try.func15, Try.ntmps15
  go_wp2_with ((with_reducible refine gate_dst (N := 2) rfl ?_); refine box_event ?hg (N := 2) ?hd (cs := #[.string t0, .string t1, .string t2]) (t := 105) ?hr ?_; (case hd => rfl); (case hg => rfl); (case hr => first | (go_simp; done) | (go_simp; rfl)); intro f2 hg w1 hbox hb; have BK := Ja38_.mk hbox; have HB := Ja38_.mk hb; have GE := Ja38_.mk (Nat.le_of_eq hg.symm : w.heap.size ≤ f2); clear hg hbox hb)
  refine start_ (n := 16) (S := fun w' => w'.cell? ⟨f2, 0, none⟩ = some (.string t0) ∧ w'.cell? ⟨f2, 1, none⟩ = some (.string t1) ∧ w'.cell? ⟨f2, 2, none⟩ = some (.string t2)) (ds := [14]) (bz_ 16 0) (by kernel_rfl) rfl rfl ⟨(Ja39_ BK.out 0).trans rfl, (Ja39_ BK.out 1).trans rfl, (Ja39_ BK.out 2).trans rfl⟩ (fun hHeld => ?_); refine with_tabW J21_.tab1 J21_.bits1 (fun HT_ HW_ => ?_)
  replace BK := Ja38_.mk (Ja49_ BK.out)
  replace HB := Ja38_.mk (Ja42_ HB.out)
  generalize w1.drew = wd at BK HB hHeld ⊢
  refine pure_ (i := 0) (N := some 15) (v := ?_) (a' := ?_) (bz_ 16 1) rfl rfl (any_of HT_.out (by kernel_rfl)) (fun _ _ _ h => h) (Or.inl ⟨by rfl, ?_⟩) ?_ ?_
  rotate_left
  · intro w'
    go_simp
    with_reducible rfl
  rotate_left
  · simp only [Act.put, sA_, sB_, sC_, i64_w, i32_w]
    rfl
  refine pure_ (i := 3) (N := some 18) (v := ?_) (a' := ?_) (bz_ 16 9) rfl rfl (any_of HT_.out (by kernel_rfl)) (fun _ _ _ h => h) (Or.inl ⟨by rfl, ?_⟩) ?_ ?_
  rotate_left
  · intro w'
    go_simp
    with_reducible rfl
  rotate_left
  · simp only [Act.put, sA_, sB_, sC_, i64_w, i32_w]
    rfl
  refine pure_ (i := 6) (N := some 21) (v := ?_) (a' := ?_) (bz_ 16 73) rfl rfl (any_of HT_.out (by kernel_rfl)) (fun _ _ _ h => h) (Or.inl ⟨by rfl, ?_⟩) ?_ ?_
  rotate_left
  · intro w'
    go_simp
    with_reducible rfl
  rotate_left
  · simp only [Act.put, sA_, sB_, sC_, i64_w, i32_w]
    rfl
  refine take_ (i := 1) (N := some 16) (v := ?_) (a' := ?_) (bz_ 16 75) rfl rfl (Ja52_ HT_.out HW_.out (by kernel_rfl)) (fun _ _ _ h => h) (Or.inl ⟨by rfl, ?_⟩) hHeld ?_ ?_
  rotate_left
  · rintro w' ⟨s0, s1, s2⟩
    go_simp
    with_reducible rfl
  rotate_left
  · simp only [Act.put, sA_, sB_, sC_, i64_w, i32_w]
    rfl
  refine take_ (i := 4) (N := some 19) (v := ?_) (a' := ?_) (bz_ 16 91) rfl rfl (Ja52_ HT_.out HW_.out (by kernel_rfl)) (fun _ _ _ h => h) (Or.inl ⟨by rfl, ?_⟩) hHeld ?_ ?_
  rotate_left
  · rintro w' ⟨s0, s1, s2⟩
    go_simp
    with_reducible rfl
  rotate_left
  · simp only [Act.put, sA_, sB_, sC_, i64_w, i32_w]
    rfl
  refine take_ (i := 7) (N := some 22) (v := ?_) (a' := ?_) (bz_ 16 219) rfl rfl (Ja52_ HT_.out HW_.out (by kernel_rfl)) (fun _ _ _ h => h) (Or.inl ⟨by rfl, ?_⟩) hHeld ?_ ?_
  rotate_left
  · rintro w' ⟨s0, s1, s2⟩
    go_simp
    with_reducible rfl
  rotate_left
  · simp only [Act.put, sA_, sB_, sC_, i64_w, i32_w]
    rfl
  refine join_ (σ := J15) 2 (bz_ 16 16383) (fun s => [(17, .string s0), (20, .string s1), (23, .string s2), (24, .tuple #[.agg #[.slice s.A0 l0.length s.c0, .slice s.A1 l1.length s.c1, .slice s.A2 l2.length s.c2], .slice s.A3 cs.length s.c3]), (14, .tuple #[.agg #[.slice s.A0 l0.length s.c0, .slice s.A1 l1.length s.c1, .slice s.A2 l2.length s.c2], .slice s.A3 cs.length s.c3]), (25, .agg #[.slice s.A0 l0.length s.c0, .slice s.A1 l1.length s.c1, .slice s.A2 l2.length s.c2]), (26, .slice s.A3 cs.length s.c3), (5, .pointer (some ⟨s.s, 0, none⟩))]) (fun s w' => w'.heap[f2]? = some (.cells #[.string t0, .string t1, .string t2] 105 (0, 0)) ∧ w'.heap[s.s]? = some (.cells #[.slice none 0 0, .slice none 0 0, .slice none 0 0] 107 (0, 0)) ∧ Below w.heap.size w w' ∧ w.heap.size ≤ s.s ∧ f2 ≠ s.s ∧ (Kd.F Kd.string w' (fun k => k ≠ s.s) s.A0 l0.length l0 ∧ l0.length ≤ s.c0) ∧ (Kd.F Kd.string w' (fun k => k ≠ s.s) s.A1 l1.length l1 ∧ l1.length ≤ s.c1) ∧ (Kd.F Kd.string w' (fun k => k ≠ s.s) s.A2 l2.length l2 ∧ l2.length ≤ s.c2) ∧ (Kd.F k81 w' (fun k => k ≠ s.s) s.A3 cs.length cs ∧ cs.length ≤ s.c3)) ?_ ?_
  rotate_left
  · intro hJ4
    refine join_ (σ := Nat) 6 (bz_ 16 8703) (fun s => [(17, .string s0), (20, .string s1), (23, .string s2), (5, .pointer (some ⟨s, 0, none⟩))]) (fun s w' => w'.heap[f2]? = some (.cells #[.string t0, .string t1, .string t2] 105 (0, 0)) ∧ w'.heap[s]? = some (.cells #[.slice none 0 0, .slice none 0 0, .slice none 0 0] 107 (0, 0)) ∧ Below w.heap.size w w' ∧ w.heap.size ≤ s ∧ f2 ≠ s) ?_ ?_
    rotate_left
    · intro hJ3
      refine join_ (σ := Nat) 7 (bz_ 16 8447) (fun s => [(17, .string s0), (20, .string s1), (5, .pointer (some ⟨s, 0, none⟩))]) (fun s w' => w'.heap[f2]? = some (.cells #[.string t0, .string t1, .string t2] 105 (0, 0)) ∧ w'.heap[s]? = some (.cells #[.slice none 0 0, .slice none 0 0, .slice none 0 0] 107 (0, 0)) ∧ Below w.heap.size w w' ∧ w.heap.size ≤ s ∧ f2 ≠ s) ?_ ?_
      rotate_left
      · intro hJ2
        refine join_ (σ := Nat) 8 (bz_ 16 8415) (fun s => [(17, .string s0), (5, .pointer (some ⟨s, 0, none⟩))]) (fun s w' => w'.heap[f2]? = some (.cells #[.string t0, .string t1, .string t2] 105 (0, 0)) ∧ w'.heap[s]? = some (.cells #[.slice none 0 0, .slice none 0 0, .slice none 0 0] 107 (0, 0)) ∧ Below w.heap.size w w' ∧ w.heap.size ≤ s ∧ f2 ≠ s) ?_ ?_
        rotate_left
        · intro hJ1
          refine two_ (i := 2) (j := 13) (Ni := some 17) (Nj := some 5) (bz_ 16 223) (bz_ 16 8411) rfl rfl rfl rfl (two_of HT_.out (by kernel_rfl)) (by decide) (by decide) (fun K hK => ?_) (fun K hK => ?_)
          · skip
            refine goes_ Try.func72 (by kernel_rfl) rfl #[.string t0] (by rfl) rfl rfl (by (try simp only [List.map_toArray, List.map_cons, List.map_nil]); first | done | rfl) ?_
            refine (J25_.calls t0 s0 _ H.out.h0).mono ?_
            rintro e w' ⟨rfl, hD⟩
            have hb := Drawn0.below hD
            refine ⟨_, rfl, ?_⟩
            have BKq1 := Ja38_.mk (Ja47_ BK.out hb)
            have HBq1 := Ja38_.mk (Ja44_ HB.out hb)
            clear hb
            refine hK.out _ _ ⟨(Ja39_ BKq1.out 0).trans rfl, (Ja39_ BKq1.out 1).trans rfl, (Ja39_ BKq1.out 2).trans rfl⟩ (fun hHeld => ?_)
            clear hK K
            refine norm_ (a' := ?_) ?_ ?_
            rotate_left
            · show Act.put _ (some 17) _ = _
              simp only [Act.put, sA_, sB_, sC_, i64_w, i32_w]
              rfl
            refine two_ (i := 5) (j := 13) (Ni := some 20) (Nj := some 5) (bz_ 16 255) (bz_ 16 8415) rfl rfl rfl rfl (two_of HT_.out (by kernel_rfl)) (by decide) (by decide) (fun K hK => ?_) (fun K hK => ?_)
            · skip
              refine goes_ Try.func72 (by kernel_rfl) rfl #[.string t1] (by rfl) rfl rfl (by (try simp only [List.map_toArray, List.map_cons, List.map_nil]); first | done | rfl) ?_
              refine (J25_.calls t1 s1 _ H.out.h1).mono ?_
              rintro e w' ⟨rfl, hD⟩
              have hb := Drawn0.below hD
              refine ⟨_, rfl, ?_⟩
              have BKq2 := Ja38_.mk (Ja47_ BKq1.out hb)
              have HBq2 := Ja38_.mk (Ja44_ HBq1.out hb)
              clear hb
              refine hK.out _ _ ⟨(Ja39_ BKq2.out 0).trans rfl, (Ja39_ BKq2.out 1).trans rfl, (Ja39_ BKq2.out 2).trans rfl⟩ (fun hHeld => ?_)
              clear hK K
              refine norm_ (a' := ?_) ?_ ?_
              rotate_left
              · show Act.put _ (some 20) _ = _
                simp only [Act.put, sA_, sB_, sC_, i64_w, i32_w]
                rfl
              refine two_ (i := 8) (j := 13) (Ni := some 23) (Nj := some 5) (bz_ 16 511) (bz_ 16 8447) rfl rfl rfl rfl (two_of HT_.out (by kernel_rfl)) (by decide) (by decide) (fun K hK => ?_) (fun K hK => ?_)
              · skip
                refine goes_ Try.func72 (by kernel_rfl) rfl #[.string t2] (by rfl) rfl rfl (by (try simp only [List.map_toArray, List.map_cons, List.map_nil]); first | done | rfl) ?_
                refine (J25_.calls t2 s2 _ H.out.h2).mono ?_
                rintro e w' ⟨rfl, hD⟩
                have hb := Drawn0.below hD
                refine ⟨_, rfl, ?_⟩
                have BKq3 := Ja38_.mk (Ja47_ BKq2.out hb)
                have HBq3 := Ja38_.mk (Ja44_ HBq2.out hb)
                clear hb
                refine hK.out _ _ ⟨(Ja39_ BKq3.out 0).trans rfl, (Ja39_ BKq3.out 1).trans rfl, (Ja39_ BKq3.out 2).trans rfl⟩ (fun hHeld => ?_)
                clear hK K
                refine norm_ (a' := ?_) ?_ ?_
                rotate_left
                · show Act.put _ (some 23) _ = _
                  simp only [Act.put, sA_, sB_, sC_, i64_w, i32_w]
                  rfl
                refine two_ (i := 9) (j := 13) (Ni := some 24) (Nj := some 5) (bz_ 16 1023) (bz_ 16 8703) rfl rfl rfl rfl (two_of HT_.out (by kernel_rfl)) (by decide) (by decide) (fun K hK => ?_) (fun K hK => ?_)
                · skip
                  refine goes_ Try.func71 (by kernel_rfl) rfl #[.string s0, .string s1, .string s2] (by rfl) rfl rfl (by (try simp only [List.map_toArray, List.map_cons, List.map_nil]); first | done | rfl) ?_
                  refine (J23_.callsF k s0 s1 s2 l0 l1 l2 cs _ H.out.hs).mono ?_
                  rintro e w' ⟨A0, A1, A2, A3, c0, c1, c2, c3, rfl, ⟨hC0, hL0⟩, ⟨hC1, hL1⟩, ⟨hC2, hL2⟩, ⟨hC3, hL3⟩, hb⟩
                  refine ⟨_, rfl, ?_⟩
                  have C0q4 := Ja38_.mk hC0
                  have LC0 := Ja38_.mk hL0
                  have C1q4 := Ja38_.mk hC1
                  have LC1 := Ja38_.mk hL1
                  have C2q4 := Ja38_.mk hC2
                  have LC2 := Ja38_.mk hL2
                  have C3q4 := Ja38_.mk hC3
                  have LC3 := Ja38_.mk hL3
                  clear hC0 hL0 hC1 hL1 hC2 hL2 hC3 hL3
                  have BKq4 := Ja38_.mk (Ja47_ BKq3.out hb)
                  have HBq4 := Ja38_.mk (Ja44_ HBq3.out hb)
                  clear hb
                  refine hK.out _ _ ⟨(Ja39_ BKq4.out 0).trans rfl, (Ja39_ BKq4.out 1).trans rfl, (Ja39_ BKq4.out 2).trans rfl⟩ (fun hHeld => ?_)
                  clear hK K
                  refine norm_ (a' := ?_) ?_ ?_
                  rotate_left
                  · show Act.put _ (some 24) _ = _
                    simp only [Act.put, sA_, sB_, sC_, i64_w, i32_w]
                    rfl
                  refine pure_ (i := 10) (N := some 14) (v := ?_) (a' := ?_) (bz_ 16 2047) rfl rfl (any_of HT_.out (by kernel_rfl)) (fun _ _ _ h => h) (Or.inl ⟨by rfl, ?_⟩) ?_ ?_
                  rotate_left
                  · intro w'
                    go_simp
                    with_reducible rfl
                  rotate_left
                  · simp only [Act.put, sA_, sB_, sC_, i64_w, i32_w]
                    rfl
                  refine pure_ (i := 11) (N := some 25) (v := ?_) (a' := ?_) (bz_ 16 4095) rfl rfl (any_of HT_.out (by kernel_rfl)) (fun _ _ _ h => h) (Or.inl ⟨by rfl, ?_⟩) ?_ ?_
                  rotate_left
                  · intro w'
                    go_simp
                    with_reducible rfl
                  rotate_left
                  · simp only [Act.put, sA_, sB_, sC_, i64_w, i32_w]
                    rfl
                  refine pure_ (i := 12) (N := some 26) (v := ?_) (a' := ?_) (bz_ 16 8191) rfl rfl (any_of HT_.out (by kernel_rfl)) (fun _ _ _ h => h) (Or.inl ⟨by rfl, ?_⟩) ?_ ?_
                  rotate_left
                  · intro w'
                    go_simp
                    with_reducible rfl
                  rotate_left
                  · simp only [Act.put, sA_, sB_, sC_, i64_w, i32_w]
                    rfl
                  refine one_ (i := 13) (N := some 5) (bz_ 16 16383) rfl rfl (one_of HT_.out (by kernel_rfl)) (by decide) (fun K hK => ?_)
                  refine value_ (w1 := ?_) (v := ?_) (by rfl) rfl ?_ ?_
                  rotate_left 2
                  · go_simp
                    constructor
                    · rfl
                    · rfl
                  refine alloc_gen15 (P := fun W => K _ W) (fun W' hs hba => ?_)
                  have BKq5 := Ja38_.mk (Ja47_ BKq4.out hba)
                  have BSq5 := Ja38_.mk hs
                  have GSq5 := Ja38_.mk (Ja45_ HBq4.out)
                  have NEq5 := Ja38_.mk (Nat.ne_of_lt (blk_lt BKq4.out))
                  have HBq5 := Ja38_.mk (Ja44_ HBq4.out hba)
                  have C0q5 := Ja38_.mk (Kd.F_mono (Kd.F_old C0q4.out hba) (fun k hk => Nat.ne_of_lt hk.2))
                  have C1q5 := Ja38_.mk (Kd.F_mono (Kd.F_old C1q4.out hba) (fun k hk => Nat.ne_of_lt hk.2))
                  have C2q5 := Ja38_.mk (Kd.F_mono (Kd.F_old C2q4.out hba) (fun k hk => Nat.ne_of_lt hk.2))
                  have C3q5 := Ja38_.mk (Kd.F_mono (Kd.F_old C3q4.out hba) (fun k hk => Nat.ne_of_lt hk.2))
                  clear hs hba
                  refine hK.out _ _ ⟨(Ja39_ BKq5.out 0).trans rfl, (Ja39_ BKq5.out 1).trans rfl, (Ja39_ BKq5.out 2).trans rfl⟩ (fun hHeld => ?_)
                  clear hK K
                  refine norm_ (a' := ?_) ?_ ?_
                  rotate_left
                  · show Act.put _ (some 5) _ = _
                    simp only [Act.put, sA_, sB_, sC_, i64_w, i32_w]
                    rfl
                  exact norm_ (by first | (simp only [putAll, Act.put, sA_, sB_, sC_]; done) | (simp only [putAll, Act.put, sA_, sB_, sC_]; rfl)) (hJ4 ⟨_, A0, c0, A1, c1, A2, c2, A3, c3⟩ _ ⟨BKq5.out, BSq5.out, HBq5.out, GSq5.out, NEq5.out, ⟨C0q5.out, LC0.out⟩, ⟨C1q5.out, LC1.out⟩, ⟨C2q5.out, LC2.out⟩, ⟨C3q5.out, LC3.out⟩⟩)
                · skip
                  refine value_ (w1 := ?_) (v := ?_) (by rfl) rfl ?_ ?_
                  rotate_left 2
                  · go_simp
                    constructor
                    · rfl
                    · rfl
                  refine alloc_gen15 (P := fun W => K _ W) (fun W' hs hba => ?_)
                  have BKq6 := Ja38_.mk (Ja47_ BKq3.out hba)
                  have BSq6 := Ja38_.mk hs
                  have GSq6 := Ja38_.mk (Ja45_ HBq3.out)
                  have NEq6 := Ja38_.mk (Nat.ne_of_lt (blk_lt BKq3.out))
                  have HBq6 := Ja38_.mk (Ja44_ HBq3.out hba)
                  clear hs hba
                  refine hK.out _ _ ⟨(Ja39_ BKq6.out 0).trans rfl, (Ja39_ BKq6.out 1).trans rfl, (Ja39_ BKq6.out 2).trans rfl⟩ (fun hHeld => ?_)
                  clear hK K
                  refine norm_ (a' := ?_) ?_ ?_
                  rotate_left
                  · show Act.put _ (some 5) _ = _
                    simp only [Act.put, sA_, sB_, sC_, i64_w, i32_w]
                    rfl
                  exact norm_ (by first | (simp only [putAll, Act.put, sA_, sB_, sC_]; done) | (simp only [putAll, Act.put, sA_, sB_, sC_]; rfl)) (hJ3 _ _ ⟨BKq6.out, BSq6.out, HBq6.out, GSq6.out, NEq6.out⟩)
              · skip
                refine value_ (w1 := ?_) (v := ?_) (by rfl) rfl ?_ ?_
                rotate_left 2
                · go_simp
                  constructor
                  · rfl
                  · rfl
                refine alloc_gen15 (P := fun W => K _ W) (fun W' hs hba => ?_)
                have BKq7 := Ja38_.mk (Ja47_ BKq2.out hba)
                have BSq7 := Ja38_.mk hs
                have GSq7 := Ja38_.mk (Ja45_ HBq2.out)
                have NEq7 := Ja38_.mk (Nat.ne_of_lt (blk_lt BKq2.out))
                have HBq7 := Ja38_.mk (Ja44_ HBq2.out hba)
                clear hs hba
                refine hK.out _ _ ⟨(Ja39_ BKq7.out 0).trans rfl, (Ja39_ BKq7.out 1).trans rfl, (Ja39_ BKq7.out 2).trans rfl⟩ (fun hHeld => ?_)
                clear hK K
                refine norm_ (a' := ?_) ?_ ?_
                rotate_left
                · show Act.put _ (some 5) _ = _
                  simp only [Act.put, sA_, sB_, sC_, i64_w, i32_w]
                  rfl
                exact norm_ (by first | (simp only [putAll, Act.put, sA_, sB_, sC_]; done) | (simp only [putAll, Act.put, sA_, sB_, sC_]; rfl)) (hJ2 _ _ ⟨BKq7.out, BSq7.out, HBq7.out, GSq7.out, NEq7.out⟩)
            · skip
              refine value_ (w1 := ?_) (v := ?_) (by rfl) rfl ?_ ?_
              rotate_left 2
              · go_simp
                constructor
                · rfl
                · rfl
              refine alloc_gen15 (P := fun W => K _ W) (fun W' hs hba => ?_)
              have BKq8 := Ja38_.mk (Ja47_ BKq1.out hba)
              have BSq8 := Ja38_.mk hs
              have GSq8 := Ja38_.mk (Ja45_ HBq1.out)
              have NEq8 := Ja38_.mk (Nat.ne_of_lt (blk_lt BKq1.out))
              have HBq8 := Ja38_.mk (Ja44_ HBq1.out hba)
              clear hs hba
              refine hK.out _ _ ⟨(Ja39_ BKq8.out 0).trans rfl, (Ja39_ BKq8.out 1).trans rfl, (Ja39_ BKq8.out 2).trans rfl⟩ (fun hHeld => ?_)
              clear hK K
              refine norm_ (a' := ?_) ?_ ?_
              rotate_left
              · show Act.put _ (some 5) _ = _
                simp only [Act.put, sA_, sB_, sC_, i64_w, i32_w]
                rfl
              exact norm_ (by first | (simp only [putAll, Act.put, sA_, sB_, sC_]; done) | (simp only [putAll, Act.put, sA_, sB_, sC_]; rfl)) (hJ1 _ _ ⟨BKq8.out, BSq8.out, HBq8.out, GSq8.out, NEq8.out⟩)
          · skip
            refine value_ (w1 := ?_) (v := ?_) (by rfl) rfl ?_ ?_
            rotate_left 2
            · go_simp
              constructor
              · rfl
              · rfl
            refine alloc_gen15 (P := fun W => K _ W) (fun W' hs hba => ?_)
            have BKq9 := Ja38_.mk (Ja47_ BK.out hba)
            have BSq9 := Ja38_.mk hs
            have GSq9 := Ja38_.mk (Ja45_ HB.out)
            have NEq9 := Ja38_.mk (Nat.ne_of_lt (blk_lt BK.out))
            have HBq9 := Ja38_.mk (Ja44_ HB.out hba)
            clear hs hba
            refine hK.out _ _ ⟨(Ja39_ BKq9.out 0).trans rfl, (Ja39_ BKq9.out 1).trans rfl, (Ja39_ BKq9.out 2).trans rfl⟩ (fun hHeld => ?_)
            clear hK K
            refine norm_ (a' := ?_) ?_ ?_
            rotate_left
            · show Act.put _ (some 5) _ = _
              simp only [Act.put, sA_, sB_, sC_, i64_w, i32_w]
              rfl
            refine one_ (i := 2) (N := some 17) (bz_ 16 8415) rfl rfl (one_of HT_.out (by kernel_rfl)) (by decide) (fun K hK => ?_)
            refine goes_ Try.func72 (by kernel_rfl) rfl #[.string t0] (by rfl) rfl rfl (by (try simp only [List.map_toArray, List.map_cons, List.map_nil]); first | done | rfl) ?_
            refine (J25_.calls t0 s0 _ H.out.h0).mono ?_
            rintro e w' ⟨rfl, hD⟩
            have hb := Drawn0.below hD
            refine ⟨_, rfl, ?_⟩
            have BKq10 := Ja38_.mk (Ja47_ BKq9.out hb)
            have HBq10 := Ja38_.mk (Ja44_ HBq9.out hb)
            have BSq10 := Ja38_.mk (Ja47_ BSq9.out hb)
            have GSq10 := GSq9
            have NEq10 := NEq9
            clear hb
            refine hK.out _ _ ⟨(Ja39_ BKq10.out 0).trans rfl, (Ja39_ BKq10.out 1).trans rfl, (Ja39_ BKq10.out 2).trans rfl⟩ (fun hHeld => ?_)
            clear hK K
            refine norm_ (a' := ?_) ?_ ?_
            rotate_left
            · show Act.put _ (some 17) _ = _
              simp only [Act.put, sA_, sB_, sC_, i64_w, i32_w]
              rfl
            exact norm_ (by first | (simp only [putAll, Act.put, sA_, sB_, sC_]; done) | (simp only [putAll, Act.put, sA_, sB_, sC_]; rfl)) (hJ1 _ _ ⟨BKq10.out, BSq10.out, HBq10.out, GSq10.out, NEq10.out⟩)
        · skip
          rintro sj wj ⟨hb1, hb2, hb3, hb4, hb5⟩
          have BKj1 := Ja38_.mk hb1
          have BSj1 := Ja38_.mk hb2
          have HBj1 := Ja38_.mk hb3
          have GSj1 := Ja38_.mk hb4
          have NEj1 := Ja38_.mk hb5
          clear hb1 hb2 hb3 hb4 hb5
          refine norm_ (a' := ?_) ?_ ?_
          rotate_left
          · simp only [putAll, Act.put, sA_, sB_, sC_]
            rfl
          refine one_ (i := 5) (N := some 20) (bz_ 16 8447) rfl rfl (one_of HT_.out (by kernel_rfl)) (by decide) (fun K hK => ?_)
          refine goes_ Try.func72 (by kernel_rfl) rfl #[.string t1] (by rfl) rfl rfl (by (try simp only [List.map_toArray, List.map_cons, List.map_nil]); first | done | rfl) ?_
          refine (J25_.calls t1 s1 _ H.out.h1).mono ?_
          rintro e w' ⟨rfl, hD⟩
          have hb := Drawn0.below hD
          refine ⟨_, rfl, ?_⟩
          have BKq11 := Ja38_.mk (Ja47_ BKj1.out hb)
          have HBq11 := Ja38_.mk (Ja44_ HBj1.out hb)
          have BSq11 := Ja38_.mk (Ja47_ BSj1.out hb)
          have GSq11 := GSj1
          have NEq11 := NEj1
          clear hb
          refine hK.out _ _ ⟨(Ja39_ BKq11.out 0).trans rfl, (Ja39_ BKq11.out 1).trans rfl, (Ja39_ BKq11.out 2).trans rfl⟩ (fun hHeld => ?_)
          clear hK K
          refine norm_ (a' := ?_) ?_ ?_
          rotate_left
          · show Act.put _ (some 20) _ = _
            simp only [Act.put, sA_, sB_, sC_, i64_w, i32_w]
            rfl
          exact norm_ (by first | (simp only [putAll, Act.put, sA_, sB_, sC_]; done) | (simp only [putAll, Act.put, sA_, sB_, sC_]; rfl)) (hJ2 _ _ ⟨BKq11.out, BSq11.out, HBq11.out, GSq11.out, NEq11.out⟩)
      · skip
        rintro sj wj ⟨hb1, hb2, hb3, hb4, hb5⟩
        have BKj2 := Ja38_.mk hb1
        have BSj2 := Ja38_.mk hb2
        have HBj2 := Ja38_.mk hb3
        have GSj2 := Ja38_.mk hb4
        have NEj2 := Ja38_.mk hb5
        clear hb1 hb2 hb3 hb4 hb5
        refine norm_ (a' := ?_) ?_ ?_
        rotate_left
        · simp only [putAll, Act.put, sA_, sB_, sC_]
          rfl
        refine one_ (i := 8) (N := some 23) (bz_ 16 8703) rfl rfl (one_of HT_.out (by kernel_rfl)) (by decide) (fun K hK => ?_)
        refine goes_ Try.func72 (by kernel_rfl) rfl #[.string t2] (by rfl) rfl rfl (by (try simp only [List.map_toArray, List.map_cons, List.map_nil]); first | done | rfl) ?_
        refine (J25_.calls t2 s2 _ H.out.h2).mono ?_
        rintro e w' ⟨rfl, hD⟩
        have hb := Drawn0.below hD
        refine ⟨_, rfl, ?_⟩
        have BKq12 := Ja38_.mk (Ja47_ BKj2.out hb)
        have HBq12 := Ja38_.mk (Ja44_ HBj2.out hb)
        have BSq12 := Ja38_.mk (Ja47_ BSj2.out hb)
        have GSq12 := GSj2
        have NEq12 := NEj2
        clear hb
        refine hK.out _ _ ⟨(Ja39_ BKq12.out 0).trans rfl, (Ja39_ BKq12.out 1).trans rfl, (Ja39_ BKq12.out 2).trans rfl⟩ (fun hHeld => ?_)
        clear hK K
        refine norm_ (a' := ?_) ?_ ?_
        rotate_left
        · show Act.put _ (some 23) _ = _
          simp only [Act.put, sA_, sB_, sC_, i64_w, i32_w]
          rfl
        exact norm_ (by first | (simp only [putAll, Act.put, sA_, sB_, sC_]; done) | (simp only [putAll, Act.put, sA_, sB_, sC_]; rfl)) (hJ3 _ _ ⟨BKq12.out, BSq12.out, HBq12.out, GSq12.out, NEq12.out⟩)
    · skip
      rintro sj wj ⟨hb1, hb2, hb3, hb4, hb5⟩
      have BKj3 := Ja38_.mk hb1
      have BSj3 := Ja38_.mk hb2
      have HBj3 := Ja38_.mk hb3
      have GSj3 := Ja38_.mk hb4
      have NEj3 := Ja38_.mk hb5
      clear hb1 hb2 hb3 hb4 hb5
      refine norm_ (a' := ?_) ?_ ?_
      rotate_left
      · simp only [putAll, Act.put, sA_, sB_, sC_]
        rfl
      refine one_ (i := 9) (N := some 24) (bz_ 16 9215) rfl rfl (one_of HT_.out (by kernel_rfl)) (by decide) (fun K hK => ?_)
      refine goes_ Try.func71 (by kernel_rfl) rfl #[.string s0, .string s1, .string s2] (by rfl) rfl rfl (by (try simp only [List.map_toArray, List.map_cons, List.map_nil]); first | done | rfl) ?_
      refine (J23_.callsF k s0 s1 s2 l0 l1 l2 cs _ H.out.hs).mono ?_
      rintro e w' ⟨A0, A1, A2, A3, c0, c1, c2, c3, rfl, ⟨hC0, hL0⟩, ⟨hC1, hL1⟩, ⟨hC2, hL2⟩, ⟨hC3, hL3⟩, hb⟩
      refine ⟨_, rfl, ?_⟩
      have C0q13 := Ja38_.mk (Kd.F_mono hC0 (fun k hk => Nat.ne_of_gt (Nat.lt_of_lt_of_le (blk_lt BSj3.out) hk)))
      have LC0 := Ja38_.mk hL0
      have C1q13 := Ja38_.mk (Kd.F_mono hC1 (fun k hk => Nat.ne_of_gt (Nat.lt_of_lt_of_le (blk_lt BSj3.out) hk)))
      have LC1 := Ja38_.mk hL1
      have C2q13 := Ja38_.mk (Kd.F_mono hC2 (fun k hk => Nat.ne_of_gt (Nat.lt_of_lt_of_le (blk_lt BSj3.out) hk)))
      have LC2 := Ja38_.mk hL2
      have C3q13 := Ja38_.mk (Kd.F_mono hC3 (fun k hk => Nat.ne_of_gt (Nat.lt_of_lt_of_le (blk_lt BSj3.out) hk)))
      have LC3 := Ja38_.mk hL3
      clear hC0 hL0 hC1 hL1 hC2 hL2 hC3 hL3
      have BKq13 := Ja38_.mk (Ja47_ BKj3.out hb)
      have HBq13 := Ja38_.mk (Ja44_ HBj3.out hb)
      have BSq13 := Ja38_.mk (Ja47_ BSj3.out hb)
      have GSq13 := GSj3
      have NEq13 := NEj3
      clear hb
      refine hK.out _ _ ⟨(Ja39_ BKq13.out 0).trans rfl, (Ja39_ BKq13.out 1).trans rfl, (Ja39_ BKq13.out 2).trans rfl⟩ (fun hHeld => ?_)
      clear hK K
      refine norm_ (a' := ?_) ?_ ?_
      rotate_left
      · show Act.put _ (some 24) _ = _
        simp only [Act.put, sA_, sB_, sC_, i64_w, i32_w]
        rfl
      refine pure_ (i := 10) (N := some 14) (v := ?_) (a' := ?_) (bz_ 16 10239) rfl rfl (any_of HT_.out (by kernel_rfl)) (fun _ _ _ h => h) (Or.inl ⟨by rfl, ?_⟩) ?_ ?_
      rotate_left
      · intro w'
        go_simp
        with_reducible rfl
      rotate_left
      · simp only [Act.put, sA_, sB_, sC_, i64_w, i32_w]
        rfl
      refine pure_ (i := 11) (N := some 25) (v := ?_) (a' := ?_) (bz_ 16 12287) rfl rfl (any_of HT_.out (by kernel_rfl)) (fun _ _ _ h => h) (Or.inl ⟨by rfl, ?_⟩) ?_ ?_
      rotate_left
      · intro w'
        go_simp
        with_reducible rfl
      rotate_left
      · simp only [Act.put, sA_, sB_, sC_, i64_w, i32_w]
        rfl
      refine pure_ (i := 12) (N := some 26) (v := ?_) (a' := ?_) (bz_ 16 16383) rfl rfl (any_of HT_.out (by kernel_rfl)) (fun _ _ _ h => h) (Or.inl ⟨by rfl, ?_⟩) ?_ ?_
      rotate_left
      · intro w'
        go_simp
        with_reducible rfl
      rotate_left
      · simp only [Act.put, sA_, sB_, sC_, i64_w, i32_w]
        rfl
      exact norm_ (by first | (simp only [putAll, Act.put, sA_, sB_, sC_]; done) | (simp only [putAll, Act.put, sA_, sB_, sC_]; rfl)) (hJ4 ⟨_, A0, c0, A1, c1, A2, c2, A3, c3⟩ _ ⟨BKq13.out, BSq13.out, HBq13.out, GSq13.out, NEq13.out, ⟨C0q13.out, LC0.out⟩, ⟨C1q13.out, LC1.out⟩, ⟨C2q13.out, LC2.out⟩, ⟨C3q13.out, LC3.out⟩⟩)
  rintro ⟨fs, A0, c0, A1, c1, A2, c2, A3, c3⟩ wj ⟨hb1, hb2, hb3, hb4, hb5, ⟨hC0, hL0⟩, ⟨hC1, hL1⟩, ⟨hC2, hL2⟩, ⟨hC3, hL3⟩⟩
  clear BK HB
  dsimp only at hb1 hb2 hb3 hb4 hb5 hC0 hC1 hC2 hC3 hL0 hL1 hL2 hL3
  have BK := Ja38_.mk hb1
  have BS := Ja38_.mk hb2
  have HB := Ja38_.mk hb3
  have GS := Ja38_.mk hb4
  have NE := Ja38_.mk hb5
  have C0 := Ja38_.mk hC0
  have LC0 := Ja38_.mk hL0
  have C1 := Ja38_.mk hC1
  have LC1 := Ja38_.mk hL1
  have C2 := Ja38_.mk hC2
  have LC2 := Ja38_.mk hL2
  have C3 := Ja38_.mk hC3
  have LC3 := Ja38_.mk hL3
  clear hb1 hb2 hb3 hb4 hb5 hC0 hL0 hC1 hL1 hC2 hL2 hC3 hL3
  refine norm_ (a' := ?_) ?_ ?_
  rotate_left
  · simp only [putAll, Act.put, sA_, sB_, sC_]
    rfl
  have y0 := (Ja39_ BS.out 0).trans (show _ = some (Value.slice none 0 0) from rfl)
  have y1 := (Ja39_ BS.out 1).trans (show _ = some (Value.slice none 0 0) from rfl)
  have y2 := (Ja39_ BS.out 2).trans (show _ = some (Value.slice none 0 0) from rfl)
  have x0 := Ja40_ BS.out 0
  have x1 := Ja40_ BS.out 1
  have x2 := Ja40_ BS.out 2
  refine last_ (i := 14) (N := none) (bz_ 16 32767) rfl rfl (one_of HT_.out (by kernel_rfl)) (by decide) (fun K hK => ?_)
  refine skip_ (w1 := ?_) (by rfl) rfl ?_ ?_
  rotate_left
  · go_simp
    rfl
  refine hK.out _ _ ?_
  clear hK K
  refine pure_ (i := 15) (N := some 6) (v := ?_) (a' := ?_) (bz_ 16 65535) rfl rfl (any_of HT_.out (by kernel_rfl)) (fun _ _ _ h => h) (Or.inl ⟨by rfl, ?_⟩) ?_ ?_
  rotate_left
  · intro w'
    go_simp
    with_reducible rfl
  rotate_left
  · simp only [Act.put, sA_, sB_, sC_, i64_w, i32_w]
    rfl
  refine done_ (done_of HT_.out (by kernel_rfl)) ?_
  clear y0 y1 y2 x0 x1 x2
  replace BS := Ja38_.mk (fill3_107 BS.out (.slice A0 l0.length c0) (.slice A1 l1.length c1) (.slice A2 l2.length c2))
  replace HB := Ja38_.mk (below3 HB.out GS.out (.slice A0 l0.length c0) (.slice A1 l1.length c1) (.slice A2 l2.length c2))
  replace C0 := Ja38_.mk (F_set3 C0.out (.slice A0 l0.length c0) (.slice A1 l1.length c1) (.slice A2 l2.length c2))
  replace C1 := Ja38_.mk (F_set3 C1.out (.slice A0 l0.length c0) (.slice A1 l1.length c1) (.slice A2 l2.length c2))
  replace C2 := Ja38_.mk (F_set3 C2.out (.slice A0 l0.length c0) (.slice A1 l1.length c1) (.slice A2 l2.length c2))
  replace C3 := Ja38_.mk (F_set3 C3.out (.slice A0 l0.length c0) (.slice A1 l1.length c1) (.slice A2 l2.length c2))
  generalize (((wj.setCell ⟨fs, 0, none⟩ (.slice A0 l0.length c0)).setCell ⟨fs, 1, none⟩ (.slice A1 l1.length c1)).setCell ⟨fs, 2, none⟩ (.slice A2 l2.length c2)) = wk at BS HB C0 C1 C2 C3 ⊢
  clear BK NE GE HT_ HW_
  go_wp2_with fail
  have q0 := (Ja39_ BS.out 0).trans (show _ = some (Value.slice A0 l0.length c0) from rfl)
  have q1 := (Ja39_ BS.out 1).trans (show _ = some (Value.slice A1 l1.length c1) from rfl)
  have q2 := (Ja39_ BS.out 2).trans (show _ = some (Value.slice A2 l2.length c2) from rfl)
  refine start_ (n := 4) (S := fun w' => w'.cell? ⟨fs, 0, none⟩ = some (.slice A0 l0.length c0) ∧ w'.cell? ⟨fs, 1, none⟩ = some (.slice A1 l1.length c1) ∧ w'.cell? ⟨fs, 2, none⟩ = some (.slice A2 l2.length c2)) (ds := []) #[false, false, false, false] (by kernel_rfl) rfl rfl ⟨q0, q1, q2⟩ (fun hHeld => ?_); refine with_tabW J21_.tab2 J21_.bits2 (fun HT_ HW_ => ?_)
  replace BS := Ja38_.mk (Ja49_ BS.out)
  replace HB := Ja38_.mk (Ja42_ HB.out)
  replace C0 := Ja38_.mk (Kd.C_drew C0.out)
  replace C1 := Ja38_.mk (Kd.C_drew C1.out)
  replace C2 := Ja38_.mk (Kd.C_drew C2.out)
  replace C3 := Ja38_.mk (Kd.C_drew C3.out)
  clear q0 q1 q2
  generalize wk.drew = wl at BS HB C0 C1 C2 C3 hHeld ⊢
  refine pure_ (i := 0) (N := some 27) (v := ?_) (a' := ?_) #[true, false, false, false] rfl rfl (any_of HT_.out (by kernel_rfl)) (fun _ _ _ h => h) (Or.inl ⟨by rfl, ?_⟩) ?_ ?_
  rotate_left
  · intro w'
    go_simp
    with_reducible rfl
  rotate_left
  · simp only [Act.put, sA_, sB_, sC_, i64_w, i32_w]
    rfl
  refine take_ (i := 1) (N := some 28) (v := ?_) (a' := ?_) #[true, true, false, false] rfl rfl (Ja52_ HT_.out HW_.out (by kernel_rfl)) (fun _ _ _ h => h) (Or.inl ⟨by rfl, ?_⟩) hHeld ?_ ?_
  rotate_left
  · rintro w' ⟨s0, s1, s2⟩
    go_simp
    with_reducible rfl
  rotate_left
  · simp only [Act.put, sA_, sB_, sC_, i64_w, i32_w]
    rfl
  refine pure_ (i := 2) (N := some 7) (v := ?_) (a' := ?_) #[true, true, true, false] rfl rfl (any_of HT_.out (by kernel_rfl)) (fun _ _ _ h => h) (Or.inl ⟨by rfl, ?_⟩) ?_ ?_
  rotate_left
  · intro w'
    go_simp
    with_reducible rfl
  rotate_left
  · simp only [Act.put, sA_, sB_, sC_, i64_w, i32_w]
    rfl
  refine pure_ (i := 3) (N := some 8) (v := ?_) (a' := ?_) #[true, true, true, true] rfl rfl (any_of HT_.out (by kernel_rfl)) (fun _ _ _ h => h) (Or.inl ⟨by rfl, ?_⟩) ?_ ?_
  rotate_left
  · intro w'
    go_simp
    with_reducible rfl
  rotate_left
  · simp only [Act.put, sA_, sB_, sC_, i64_w, i32_w]
    rfl
  refine done_ (done_of HT_.out (by kernel_rfl)) ?_
  clear hHeld HT_ HW_
  cases left with
  | true =>
    replace H := Ja38_.mk (show Fav k t0 t1 t2 s0 s1 s2 l0 l1 l2 l1 cs ch d 1 from H.out)
    go_wp2_with fail
    have q0 := (Ja39_ BS.out 0).trans (show _ = some (Value.slice A0 l0.length c0) from rfl)
    have q1 := (Ja39_ BS.out 1).trans (show _ = some (Value.slice A1 l1.length c1) from rfl)
    have q2 := (Ja39_ BS.out 2).trans (show _ = some (Value.slice A2 l2.length c2) from rfl)
    refine start_ (n := 4) (S := fun w' => w'.cell? ⟨fs, 0, none⟩ = some (.slice A0 l0.length c0) ∧ w'.cell? ⟨fs, 1, none⟩ = some (.slice A1 l1.length c1) ∧ w'.cell? ⟨fs, 2, none⟩ = some (.slice A2 l2.length c2)) (ds := []) #[false, false, false, false] (by kernel_rfl) rfl rfl ⟨q0, q1, q2⟩ (fun hHeld => ?_); refine with_tabW J21_.tab4 J21_.bits4 (fun HT_ HW_ => ?_)
    replace BS := Ja38_.mk (Ja49_ BS.out)
    replace HB := Ja38_.mk (Ja42_ HB.out)
    replace C0 := Ja38_.mk (Kd.C_drew C0.out)
    replace C1 := Ja38_.mk (Kd.C_drew C1.out)
    replace C2 := Ja38_.mk (Kd.C_drew C2.out)
    replace C3 := Ja38_.mk (Kd.C_drew C3.out)
    clear q0 q1 q2
    generalize wl.drew = wm at BS HB C0 C1 C2 C3 hHeld ⊢
    refine pure_ (i := 0) (N := some 30) (v := ?_) (a' := ?_) #[true, false, false, false] rfl rfl (any_of HT_.out (by kernel_rfl)) (fun _ _ _ h => h) (Or.inl ⟨by rfl, ?_⟩) ?_ ?_
    rotate_left
    · intro w'
      go_simp
      with_reducible rfl
    rotate_left
    · simp only [Act.put, sA_, sB_, sC_, i64_w, i32_w]
      rfl
    refine take_ (i := 1) (N := some 31) (v := ?_) (a' := ?_) #[true, true, false, false] rfl rfl (Ja52_ HT_.out HW_.out (by kernel_rfl)) (fun _ _ _ h => h) (Or.inl ⟨by rfl, ?_⟩) hHeld ?_ ?_
    rotate_left
    · rintro w' ⟨s0, s1, s2⟩
      go_simp
      with_reducible rfl
    rotate_left
    · simp only [Act.put, sA_, sB_, sC_, i64_w, i32_w]
      rfl
    refine pure_ (i := 2) (N := some 7) (v := ?_) (a' := ?_) #[true, true, true, false] rfl rfl (any_of HT_.out (by kernel_rfl)) (fun _ _ _ h => h) (Or.inl ⟨by rfl, ?_⟩) ?_ ?_
    rotate_left
    · intro w'
      go_simp
      with_reducible rfl
    rotate_left
    · simp only [Act.put, sA_, sB_, sC_, i64_w, i32_w]
      rfl
    refine pure_ (i := 3) (N := some 8) (v := ?_) (a' := ?_) #[true, true, true, true] rfl rfl (any_of HT_.out (by kernel_rfl)) (fun _ _ _ h => h) (Or.inl ⟨by rfl, ?_⟩) ?_ ?_
    rotate_left
    · intro w'
      go_simp
      with_reducible rfl
    rotate_left
    · simp only [Act.put, sA_, sB_, sC_, i64_w, i32_w]
      rfl
    refine done_ (done_of HT_.out (by kernel_rfl)) ?_
    clear hHeld HT_ HW_
    have q0 := (Ja39_ BS.out 0).trans (show _ = some (Value.slice A0 l0.length c0) from rfl)
    have q1 := (Ja39_ BS.out 1).trans (show _ = some (Value.slice A1 l1.length c1) from rfl)
    have q2 := (Ja39_ BS.out 2).trans (show _ = some (Value.slice A2 l2.length c2) from rfl)
    go_wp2_with fail
    refine (J24_.calls A0 c0 l0 A1 c1 l1 A2 c2 l2 l0 l1 l2 _ C0.out LC0.out C1.out LC1.out C2.out LC2.out H.out.ht).mono ?_
    rintro e w4 ⟨v0, v1, v2, rfl, hR0, hR1, hR2, hb⟩
    obtain ⟨X0, Xc0, rfl, hc, hC⟩ := Kd.R_reads hR0
    have HX0 := Ja38_.mk hC
    have LX0 := Ja38_.mk hc
    clear hc hC
    obtain ⟨X1, Xc1, rfl, hc, hC⟩ := Kd.R_reads hR1
    have HX1 := Ja38_.mk hC
    have LX1 := Ja38_.mk hc
    clear hc hC
    obtain ⟨X2, Xc2, rfl, hc, hC⟩ := Kd.R_reads hR2
    have HX2 := Ja38_.mk hC
    have LX2 := Ja38_.mk hc
    clear hc hC
    replace C0 := Ja38_.mk (Kd.C_below C0.out hb)
    replace C1 := Ja38_.mk (Kd.C_below C1.out hb)
    replace C2 := Ja38_.mk (Kd.C_below C2.out hb)
    replace C3 := Ja38_.mk (Kd.C_below C3.out hb)
    replace BS := Ja38_.mk (Ja47_ BS.out hb)
    replace HB := Ja38_.mk (Ja44_ HB.out hb)
    clear hR0 hR1 hR2 hb q0 q1 q2
    go_wp2_with fail
    refine (J22_.calls k A3 c3 cs ch _ C3.out LC3.out H.out.hc).mono ?_
    rintro e w5 ⟨v0, rfl, hR, hb⟩
    obtain ⟨Y, Yc, rfl, hc, hC⟩ := Kd.R_reads hR
    have HY := Ja38_.mk hC
    have LY := Ja38_.mk hc
    replace C0 := Ja38_.mk (Kd.C_below C0.out hb)
    replace C1 := Ja38_.mk (Kd.C_below C1.out hb)
    replace C2 := Ja38_.mk (Kd.C_below C2.out hb)
    replace C3 := Ja38_.mk (Kd.C_below C3.out hb)
    replace HX0 := Ja38_.mk (Kd.C_below HX0.out hb)
    replace HX1 := Ja38_.mk (Kd.C_below HX1.out hb)
    replace HX2 := Ja38_.mk (Kd.C_below HX2.out hb)
    replace BS := Ja38_.mk (Ja47_ BS.out hb)
    replace HB := Ja38_.mk (Ja44_ HB.out hb)
    clear hR hb hc hC
    go_wp2_with fail
    refine (J1_.favoured1 k X0 Xc0 l0 X1 Xc1 l1 X2 Xc2 l2 Y Yc ch d _ HX0.out LX0.out HX1.out LX1.out HX2.out LX2.out HY.out LY.out H.out.hd).mono ?_
    rintro e w6 ⟨v0, rfl, hR, hb⟩
    obtain ⟨D, Dc, rfl, hc, hC⟩ := Kd.R_reads hR
    have HD := Ja38_.mk hC
    have LD := Ja38_.mk hc
    replace C0 := Ja38_.mk (Kd.C_below C0.out hb)
    replace C1 := Ja38_.mk (Kd.C_below C1.out hb)
    replace C2 := Ja38_.mk (Kd.C_below C2.out hb)
    replace C3 := Ja38_.mk (Kd.C_below C3.out hb)
    replace HX0 := Ja38_.mk (Kd.C_below HX0.out hb)
    replace HX1 := Ja38_.mk (Kd.C_below HX1.out hb)
    replace HX2 := Ja38_.mk (Kd.C_below HX2.out hb)
    replace HY := Ja38_.mk (Kd.C_below HY.out hb)
    replace BS := Ja38_.mk (Ja47_ BS.out hb)
    replace HB := Ja38_.mk (Ja44_ HB.out hb)
    clear hR hb hc hC HX0 HX1 HX2 HY LX0 LX1 LX2 LY
    go_wp2_with fail
    refine (J26_.calls _).mono ?_
    rintro e w7 ⟨rfl, hb⟩
    replace C0 := Ja38_.mk (Kd.C_below C0.out hb)
    replace C1 := Ja38_.mk (Kd.C_below C1.out hb)
    replace C2 := Ja38_.mk (Kd.C_below C2.out hb)
    replace C3 := Ja38_.mk (Kd.C_below C3.out hb)
    replace HD := Ja38_.mk (Kd.C_below HD.out hb)
    replace BS := Ja38_.mk (Ja47_ BS.out hb)
    replace HB := Ja38_.mk (Ja44_ HB.out hb)
    clear hb
    go_wp2_with fail
    refine (J9_.calls k D Dc d 0 _ HD.out LD.out H.out.hn).mono ?_
    rintro e w8 ⟨rfl, hb⟩
    replace C0 := Ja38_.mk (Kd.C_below C0.out hb)
    replace C1 := Ja38_.mk (Kd.C_below C1.out hb)
    replace C2 := Ja38_.mk (Kd.C_below C2.out hb)
    replace C3 := Ja38_.mk (Kd.C_below C3.out hb)
    replace HD := Ja38_.mk (Kd.C_below HD.out hb)
    replace BS := Ja38_.mk (Ja47_ BS.out hb)
    replace HB := Ja38_.mk (Ja44_ HB.out hb)
    clear hb
    have hl1 : decide ((1 : Int) < (d.length : Int)) = false := decide_eq_false (by have := H.out.hl; omega)
    have hl1n : decide (1 < d.length) = false := decide_eq_false (by have := H.out.hl; omega)
    go_wp2_with fail
    clear hl1 hl1n
    have HN : Ja38_ (cs.length ≤ 9223372036854775807) := ⟨C3.out.2.1⟩
    go_loopg [11] cs.length (fun kq v11 W => ∃ i : Nat, v11 = .int .i64 (i : Int) ∧ Ja38_ (i + kq = cs.length) ∧ Ja38_ (Below w8.heap.size w8 W) ∧ Ja38_ (∀ (j : Nat) (hj : j < cs.length), j < i → J33_.f k (cs[j]'hj).f0 (cs[j]'hj).f1.f0 (cs[j]'hj).f1.f1 (cs[j]'hj).f2.f0 (cs[j]'hj).f2.f1 (cs[j]'hj).f3.f0 (cs[j]'hj).f3.f1 l0 l1 l2 = some 0 ∨ J33_.f k (cs[j]'hj).f0 (cs[j]'hj).f1.f0 (cs[j]'hj).f1.f1 (cs[j]'hj).f2.f0 (cs[j]'hj).f2.f1 (cs[j]'hj).f3.f0 (cs[j]'hj).f3.f1 l0 l1 l2 = some 4))
    case atStart => exact ⟨0, rfl, ⟨Nat.zero_add _⟩, ⟨Below.refl _ _⟩, ⟨fun j _ h => absurd h (Nat.not_lt_zero j)⟩⟩
    case round =>
      obtain ⟨i, rfl, HI, HW, HP⟩ := hrel
      have BW := Ja38_.mk (Ja47_ BS.out HW.out)
      have HBW := Ja38_.mk (Ja44_ HB.out HW.out)
      have K0 := Ja38_.mk (Kd.C_below C0.out HW.out)
      have K1 := Ja38_.mk (Kd.C_below C1.out HW.out)
      have K2 := Ja38_.mk (Kd.C_below C2.out HW.out)
      have K3 := Ja38_.mk (Kd.C_below C3.out HW.out)
      cases gk with
      | succ k1 =>
        have hil : i < cs.length := by have := HI.out; omega
        have LT0 : Ja38_ ((i : Int) < (cs.length : Int)) := ⟨by omega⟩
        have lt0 : decide ((i : Int) < (cs.length : Int)) = true := decide_eq_true LT0.out
        have lt0n : decide (i < cs.length) = true := decide_eq_true hil
        obtain ⟨ad, ea, hx0, hx1, hx2, hx3, hx4, hx5, hx6⟩ := at_T81 K3.out (i : Int) (by omega) LT0.out
        cases ea
        have hrd : rd_T81 cs (i : Int) = cs[i] := by simp [rd_T81, List.getD_eq_getElem?_getD, hil]
        rw [hrd, Int.toNat_natCast] at hx0 hx1 hx2 hx3 hx4 hx5 hx6
        obtain ⟨kc, hkc⟩ := H.out.hk _ (List.getElem_mem hil)
        have HKN : Ja38_ (kc = 0 ∨ kc = 4 → ∀ (j : Nat) (hj : j < cs.length), j < i + 1 → J33_.f k (cs[j]'hj).f0 (cs[j]'hj).f1.f0 (cs[j]'hj).f1.f1 (cs[j]'hj).f2.f0 (cs[j]'hj).f2.f1 (cs[j]'hj).f3.f0 (cs[j]'hj).f3.f1 l0 l1 l2 = some 0 ∨ J33_.f k (cs[j]'hj).f0 (cs[j]'hj).f1.f0 (cs[j]'hj).f1.f1 (cs[j]'hj).f2.f0 (cs[j]'hj).f2.f1 (cs[j]'hj).f3.f0 (cs[j]'hj).f3.f1 l0 l1 l2 = some 4) := ⟨fun h j hj hji => by
          by_cases ej : j < i
          · exact HP.out j hj ej
          · obtain rfl : j = i := by omega
            rw [hkc]; exact h.imp (congrArg some) (congrArg some)⟩
        generalize cs[i] = x at hx0 hx1 hx2 hx3 hx4 hx5 hx6 hkc
        have HKC := Ja38_.mk hkc
        have HWI : Ja38_ (wrap64 ((i : Int) + 1) = ((i + 1 : Nat) : Int)) := ⟨by have := HN.out; unfold wrap64; omega⟩
        have p0t : ((0 : Int) ≤ (i : Int)) = True := eq_true (by omega)
        have lt0p := eq_true LT0.out
        have lt0q : (i < cs.length) = True := eq_true hil
        clear hkc hrd HP
        have q0 := (Ja39_ BW.out 0).trans (show _ = some (Value.slice A0 l0.length c0) from rfl)
        have q1 := (Ja39_ BW.out 1).trans (show _ = some (Value.slice A1 l1.length c1) from rfl)
        have q2 := (Ja39_ BW.out 2).trans (show _ = some (Value.slice A2 l2.length c2) from rfl)
        go_wp2_with fail
        refine start_ (n := 12) (S := fun w' => w'.cell? ⟨fs, 0, none⟩ = some (.slice A0 l0.length c0) ∧ w'.cell? ⟨fs, 1, none⟩ = some (.slice A1 l1.length c1) ∧ w'.cell? ⟨fs, 2, none⟩ = some (.slice A2 l2.length c2) ∧ w'.cell? (ad.add (i * 7)) = some (.bool x.f0) ∧ w'.cell? ⟨(ad.add (i * 7)).block, (ad.add (i * 7)).off + 1, none⟩ = some (.int .i64 x.f1.f0) ∧ w'.cell? ⟨(ad.add (i * 7)).block, (ad.add (i * 7)).off + 2, none⟩ = some (.int .i64 x.f1.f1) ∧ w'.cell? ⟨(ad.add (i * 7)).block, (ad.add (i * 7)).off + 3, none⟩ = some (.int .i64 x.f2.f0) ∧ w'.cell? ⟨(ad.add (i * 7)).block, (ad.add (i * 7)).off + 4, none⟩ = some (.int .i64 x.f2.f1) ∧ w'.cell? ⟨(ad.add (i * 7)).block, (ad.add (i * 7)).off + 5, none⟩ = some (.int .i64 x.f3.f0) ∧ w'.cell? ⟨(ad.add (i * 7)).block, (ad.add (i * 7)).off + 6, none⟩ = some (.int .i64 x.f3.f1)) (ds := []) (bz_ 12 0) (by kernel_rfl) rfl rfl ⟨q0, q1, q2, hx0, hx1, hx2, hx3, hx4, hx5, hx6⟩ (fun hHeld => ?_); refine with_tabW J21_.tab11 J21_.bits11 (fun HT_ HW_ => ?_)
        replace BW := Ja38_.mk (Ja49_ BW.out)
        replace HBW := Ja38_.mk (Ja42_ HBW.out)
        replace HW := Ja38_.mk (Ja42_ HW.out)
        replace K0 := Ja38_.mk (Kd.C_drew K0.out)
        replace K1 := Ja38_.mk (Kd.C_drew K1.out)
        replace K2 := Ja38_.mk (Kd.C_drew K2.out)
        replace K3 := Ja38_.mk (Kd.C_drew K3.out)
        clear q0 q1 q2 hx0 hx1 hx2 hx3 hx4 hx5 hx6
        generalize wr.drew = wx at BW HBW HW K0 K1 K2 K3 hHeld ⊢
        refine pure_ (i := 0) (N := some 64) (v := ?_) (a' := ?_) (bz_ 12 1) rfl rfl (any_of HT_.out (by kernel_rfl)) (fun _ _ _ h => h) (Or.inl ⟨by rfl, ?_⟩) ?_ ?_
        rotate_left
        · intro w'
          go_simp
          with_reducible rfl
        rotate_left
        · simp only [Act.put, sA_, sB_, sC_, i64_w, i32_w]
          rfl
        refine pure_ (i := 1) (N := some 65) (v := ?_) (a' := ?_) (bz_ 12 3) rfl rfl (any_of HT_.out (by kernel_rfl)) (fun _ _ _ h => h) (Or.inl ⟨by rfl, ?_⟩) ?_ ?_
        rotate_left
        · intro w'
          go_simp
          with_reducible rfl
        rotate_left
        · simp only [Act.put, sA_, sB_, sC_, i64_w, i32_w]
          rfl
        refine pure_ (i := 2) (N := some 66) (v := ?_) (a' := ?_) (bz_ 12 7) rfl rfl (any_of HT_.out (by kernel_rfl)) (fun _ _ _ h => h) (Or.inl ⟨by rfl, ?_⟩) ?_ ?_
        rotate_left
        · intro w'
          go_simp
          with_reducible rfl
        rotate_left
        · simp only [Act.put, sA_, sB_, sC_, i64_w, i32_w]
          rfl
        refine take_ (i := 3) (N := some 67) (v := ?_) (a' := ?_) (bz_ 12 15) rfl rfl (Ja52_ HT_.out HW_.out (by kernel_rfl)) (fun _ _ _ h => h) (Or.inl ⟨by rfl, ?_⟩) hHeld ?_ ?_
        rotate_left
        · rintro w' ⟨s0, s1, s2, s3, s4, s5, s6, s7, s8, s9⟩
          go_simp
          with_reducible rfl
        rotate_left
        · simp only [Act.put, sA_, sB_, sC_, i64_w, i32_w]
          rfl
        refine pure_ (i := 4) (N := some 68) (v := ?_) (a' := ?_) (bz_ 12 31) rfl rfl (any_of HT_.out (by kernel_rfl)) (fun _ _ _ h => h) (Or.inl ⟨by rfl, ?_⟩) ?_ ?_
        rotate_left
        · intro w'
          go_simp
          with_reducible rfl
        rotate_left
        · simp only [Act.put, sA_, sB_, sC_, i64_w, i32_w]
          rfl
        refine take_ (i := 5) (N := some 69) (v := ?_) (a' := ?_) (bz_ 12 63) rfl rfl (Ja52_ HT_.out HW_.out (by kernel_rfl)) (fun _ _ _ h => h) (Or.inl ⟨by rfl, ?_⟩) hHeld ?_ ?_
        rotate_left
        · rintro w' ⟨s0, s1, s2, s3, s4, s5, s6, s7, s8, s9⟩
          go_simp
          with_reducible rfl
        rotate_left
        · simp only [Act.put, sA_, sB_, sC_, i64_w, i32_w]
          rfl
        refine pure_ (i := 6) (N := some 70) (v := ?_) (a' := ?_) (bz_ 12 127) rfl rfl (any_of HT_.out (by kernel_rfl)) (fun _ _ _ h => h) (Or.inl ⟨by rfl, ?_⟩) ?_ ?_
        rotate_left
        · intro w'
          go_simp
          with_reducible rfl
        rotate_left
        · simp only [Act.put, sA_, sB_, sC_, i64_w, i32_w]
          rfl
        refine take_ (i := 7) (N := some 71) (v := ?_) (a' := ?_) (bz_ 12 255) rfl rfl (Ja52_ HT_.out HW_.out (by kernel_rfl)) (fun _ _ _ h => h) (Or.inl ⟨by rfl, ?_⟩) hHeld ?_ ?_
        rotate_left
        · rintro w' ⟨s0, s1, s2, s3, s4, s5, s6, s7, s8, s9⟩
          go_simp
          with_reducible rfl
        rotate_left
        · simp only [Act.put, sA_, sB_, sC_, i64_w, i32_w]
          rfl
        refine pure_ (i := 8) (N := some 72) (v := ?_) (a' := ?_) (bz_ 12 511) rfl rfl (any_of HT_.out (by kernel_rfl)) (fun _ _ _ h => h) (Or.inl ⟨by rfl, ?_⟩) ?_ ?_
        rotate_left
        · intro w'
          go_simp
          with_reducible rfl
        rotate_left
        · simp only [Act.put, sA_, sB_, sC_, i64_w, i32_w]
          rfl
        refine take_ (i := 9) (N := some 73) (v := ?_) (a' := ?_) (bz_ 12 1023) rfl rfl (Ja52_ HT_.out HW_.out (by kernel_rfl)) (fun _ _ _ h => h) (Or.inl ⟨by rfl, ?_⟩) hHeld ?_ ?_
        rotate_left
        · rintro w' ⟨s0, s1, s2, s3, s4, s5, s6, s7, s8, s9⟩
          go_simp
          with_reducible rfl
        rotate_left
        · simp only [Act.put, sA_, sB_, sC_, i64_w, i32_w]
          rfl
        refine one_ (i := 10) (N := some 74) (bz_ 12 2047) rfl rfl (one_of HT_.out (by kernel_rfl)) (by decide) (fun K hK => ?_)
        refine goes_ Try.func77 (by kernel_rfl) rfl #[.agg #[.bool x.f0, .int .i64 x.f1.f0, .int .i64 x.f1.f1, .int .i64 x.f2.f0, .int .i64 x.f2.f1, .int .i64 x.f3.f0, .int .i64 x.f3.f1], .slice A0 l0.length c0, .slice A1 l1.length c1, .slice A2 l2.length c2] (by rfl) rfl rfl (by (try simp only [List.map_toArray, List.map_cons, List.map_nil]); first | done | rfl) ?_
        refine (J33_.calls k x.f0 x.f1.f0 x.f1.f1 x.f2.f0 x.f2.f1 x.f3.f0 x.f3.f1 A0 c0 l0 A1 c1 l1 A2 c2 l2 kc _ K0.out LC0.out K1.out LC1.out K2.out LC2.out HKC.out).mono ?_
        rintro e w9 ⟨rfl, hb⟩
        refine ⟨_, rfl, ?_⟩
        replace BW := Ja38_.mk (Ja47_ BW.out hb)
        replace HBW := Ja38_.mk (Ja44_ HBW.out hb)
        replace HW := Ja38_.mk (Ja44_ HW.out hb)
        have hH9 := hold10_15 hb hHeld
        clear hb
        refine hK.out _ _ hH9 (fun hHeld => ?_)
        clear hH9
        clear hK K
        refine norm_ (a' := ?_) ?_ ?_
        rotate_left
        · show Act.put _ (some 74) _ = _
          simp only [Act.put, sA_, sB_, sC_, i64_w, i32_w]
          rfl
        refine pure_ (i := 11) (N := some 12) (v := ?_) (a' := ?_) (bz_ 12 4095) rfl rfl (any_of HT_.out (by kernel_rfl)) (fun _ _ _ h => h) (Or.inl ⟨by rfl, ?_⟩) ?_ ?_
        rotate_left
        · intro w'
          go_simp
          with_reducible rfl
        rotate_left
        · simp only [Act.put, sA_, sB_, sC_, i64_w, i32_w]
          rfl
        refine done_ (done_of HT_.out (by kernel_rfl)) ?_
        clear hHeld HT_ HW_ HKC
        by_cases k0 : kc = 0
        · subst k0
          go_wp2_with fail
          go_roundg k1
          case measure => omega
          case rel => exact ⟨i + 1, by rw [HWI.out], ⟨by have := HI.out; omega⟩, HW, ⟨HKN.out (by first | decide | simp)⟩⟩
        · by_cases k4 : kc = 4
          · subst k4
            go_wp2_with fail
            go_roundg k1
            case measure => omega
            case rel => exact ⟨i + 1, by rw [HWI.out], ⟨by have := HI.out; omega⟩, HW, ⟨HKN.out (by first | decide | simp)⟩⟩
          · have k0b : decide (kc = 0) = false := decide_eq_false k0
            have k4b : decide (kc = 4) = false := decide_eq_false k4
            have k0n : (kc != 0) = true := bne_iff_ne.mpr k0
            have k4n : (kc != 4) = true := bne_iff_ne.mpr k4
            have k0e : (kc == 0) = false := beq_eq_false_iff_ne.mpr k0
            have k4e : (kc == 4) = false := beq_eq_false_iff_ne.mpr k4
            go_wp2_with fail
            go_ret
            exact ⟨by first | rfl | (simp; done), HBW.out⟩
      | zero =>
        have hil : ¬ i < cs.length := by have := HI.out; omega
        have lt1 : decide ((i : Int) < (cs.length : Int)) = false := decide_eq_false (by omega)
        have lt1n : decide (i < cs.length) = false := decide_eq_false hil
        obtain ⟨s, hj, hs⟩ := H.out.he (fun c hc => by obtain ⟨j, hj, rfl⟩ := List.getElem_of_mem hc; exact HP.out j hj (by have := HI.out; omega))
        have HJ := Ja38_.mk hj
        have HS := Ja38_.mk hs
        have KD := Ja38_.mk (Kd.C_below HD.out HW.out)
        clear hj hs hil
        go_wp2_with fail
        refine (J27_.calls k A1 c1 l1 s _ K1.out LC1.out HJ.out).mono ?_
        rintro e w9 ⟨rfl, hD⟩
        have hb := Drawn0.below hD
        replace KD := Ja38_.mk (Kd.C_below KD.out hb)
        replace HBW := Ja38_.mk (Ja44_ HBW.out hb)
        clear hD hb
        obtain ⟨rfl, rfl⟩ | ⟨hd1, hd2⟩ := HS.out
        · go_wp2_with fail
          go_ret
          exact ⟨by first | rfl | (simp; done), HBW.out⟩
        · obtain ⟨ad, ea, u0, u1, u2, u3, u4, u5, u6, u7, u8⟩ := at_T120 KD.out 0 (Int.le_refl _) (by omega)
          cases ea
          have e0 : ad.add ((0 : Int).toNat * 9) = ad := by simp [Addr.add]
          rw [e0, hd2] at u4
          clear u0 u1 u2 u3 u5 u6 u7 u8 e0 hd2
          rw [hd1]
          by_cases es : s = ⟨#[]⟩
          · subst es
            go_wp2_with fail
            go_ret
            exact ⟨by first | rfl | (simp; done), HBW.out⟩
          · go_wp2_with fail
            all_goals (go_ret; exact ⟨by first | rfl | (simp; done), HBW.out⟩)
  | false =>
    replace H := Ja38_.mk (show Fav k t0 t1 t2 s0 s1 s2 l0 l1 l2 l2 cs ch d 3 from H.out)
    have q0 := (Ja39_ BS.out 0).trans (show _ = some (Value.slice A0 l0.length c0) from rfl)
    have q1 := (Ja39_ BS.out 1).trans (show _ = some (Value.slice A1 l1.length c1) from rfl)
    have q2 := (Ja39_ BS.out 2).trans (show _ = some (Value.slice A2 l2.length c2) from rfl)
    go_wp2_with fail
    refine (J24_.calls A0 c0 l0 A1 c1 l1 A2 c2 l2 l0 l1 l2 _ C0.out LC0.out C1.out LC1.out C2.out LC2.out H.out.ht).mono ?_
    rintro e w4 ⟨v0, v1, v2, rfl, hR0, hR1, hR2, hb⟩
    obtain ⟨X0, Xc0, rfl, hc, hC⟩ := Kd.R_reads hR0
    have HX0 := Ja38_.mk hC
    have LX0 := Ja38_.mk hc
    clear hc hC
    obtain ⟨X1, Xc1, rfl, hc, hC⟩ := Kd.R_reads hR1
    have HX1 := Ja38_.mk hC
    have LX1 := Ja38_.mk hc
    clear hc hC
    obtain ⟨X2, Xc2, rfl, hc, hC⟩ := Kd.R_reads hR2
    have HX2 := Ja38_.mk hC
    have LX2 := Ja38_.mk hc
    clear hc hC
    replace C0 := Ja38_.mk (Kd.C_below C0.out hb)
    replace C1 := Ja38_.mk (Kd.C_below C1.out hb)
    replace C2 := Ja38_.mk (Kd.C_below C2.out hb)
    replace C3 := Ja38_.mk (Kd.C_below C3.out hb)
    replace BS := Ja38_.mk (Ja47_ BS.out hb)
    replace HB := Ja38_.mk (Ja44_ HB.out hb)
    clear hR0 hR1 hR2 hb q0 q1 q2
    go_wp2_with fail
    refine (J22_.calls k A3 c3 cs ch _ C3.out LC3.out H.out.hc).mono ?_
    rintro e w5 ⟨v0, rfl, hR, hb⟩
    obtain ⟨Y, Yc, rfl, hc, hC⟩ := Kd.R_reads hR
    have HY := Ja38_.mk hC
    have LY := Ja38_.mk hc
    replace C0 := Ja38_.mk (Kd.C_below C0.out hb)
    replace C1 := Ja38_.mk (Kd.C_below C1.out hb)
    replace C2 := Ja38_.mk (Kd.C_below C2.out hb)
    replace C3 := Ja38_.mk (Kd.C_below C3.out hb)
    replace HX0 := Ja38_.mk (Kd.C_below HX0.out hb)
    replace HX1 := Ja38_.mk (Kd.C_below HX1.out hb)
    replace HX2 := Ja38_.mk (Kd.C_below HX2.out hb)
    replace BS := Ja38_.mk (Ja47_ BS.out hb)
    replace HB := Ja38_.mk (Ja44_ HB.out hb)
    clear hR hb hc hC
    go_wp2_with fail
    refine (J1_.favoured3 k X0 Xc0 l0 X1 Xc1 l1 X2 Xc2 l2 Y Yc ch d _ HX0.out LX0.out HX1.out LX1.out HX2.out LX2.out HY.out LY.out H.out.hd).mono ?_
    rintro e w6 ⟨v0, rfl, hR, hb⟩
    obtain ⟨D, Dc, rfl, hc, hC⟩ := Kd.R_reads hR
    have HD := Ja38_.mk hC
    have LD := Ja38_.mk hc
    replace C0 := Ja38_.mk (Kd.C_below C0.out hb)
    replace C1 := Ja38_.mk (Kd.C_below C1.out hb)
    replace C2 := Ja38_.mk (Kd.C_below C2.out hb)
    replace C3 := Ja38_.mk (Kd.C_below C3.out hb)
    replace HX0 := Ja38_.mk (Kd.C_below HX0.out hb)
    replace HX1 := Ja38_.mk (Kd.C_below HX1.out hb)
    replace HX2 := Ja38_.mk (Kd.C_below HX2.out hb)
    replace HY := Ja38_.mk (Kd.C_below HY.out hb)
    replace BS := Ja38_.mk (Ja47_ BS.out hb)
    replace HB := Ja38_.mk (Ja44_ HB.out hb)
    clear hR hb hc hC HX0 HX1 HX2 HY LX0 LX1 LX2 LY
    go_wp2_with fail
    refine (J26_.calls _).mono ?_
    rintro e w7 ⟨rfl, hb⟩
    replace C0 := Ja38_.mk (Kd.C_below C0.out hb)
    replace C1 := Ja38_.mk (Kd.C_below C1.out hb)
    replace C2 := Ja38_.mk (Kd.C_below C2.out hb)
    replace C3 := Ja38_.mk (Kd.C_below C3.out hb)
    replace HD := Ja38_.mk (Kd.C_below HD.out hb)
    replace BS := Ja38_.mk (Ja47_ BS.out hb)
    replace HB := Ja38_.mk (Ja44_ HB.out hb)
    clear hb
    go_wp2_with fail
    refine (J9_.calls k D Dc d 0 _ HD.out LD.out H.out.hn).mono ?_
    rintro e w8 ⟨rfl, hb⟩
    replace C0 := Ja38_.mk (Kd.C_below C0.out hb)
    replace C1 := Ja38_.mk (Kd.C_below C1.out hb)
    replace C2 := Ja38_.mk (Kd.C_below C2.out hb)
    replace C3 := Ja38_.mk (Kd.C_below C3.out hb)
    replace HD := Ja38_.mk (Kd.C_below HD.out hb)
    replace BS := Ja38_.mk (Ja47_ BS.out hb)
    replace HB := Ja38_.mk (Ja44_ HB.out hb)
    clear hb
    have hl1 : decide ((1 : Int) < (d.length : Int)) = false := decide_eq_false (by have := H.out.hl; omega)
    have hl1n : decide (1 < d.length) = false := decide_eq_false (by have := H.out.hl; omega)
    go_wp2_with fail
    clear hl1 hl1n
    have HN : Ja38_ (cs.length ≤ 9223372036854775807) := ⟨C3.out.2.1⟩
    go_loopg [11] cs.length (fun kq v11 W => ∃ i : Nat, v11 = .int .i64 (i : Int) ∧ Ja38_ (i + kq = cs.length) ∧ Ja38_ (Below w8.heap.size w8 W) ∧ Ja38_ (∀ (j : Nat) (hj : j < cs.length), j < i → J33_.f k (cs[j]'hj).f0 (cs[j]'hj).f1.f0 (cs[j]'hj).f1.f1 (cs[j]'hj).f2.f0 (cs[j]'hj).f2.f1 (cs[j]'hj).f3.f0 (cs[j]'hj).f3.f1 l0 l1 l2 = some 0 ∨ J33_.f k (cs[j]'hj).f0 (cs[j]'hj).f1.f0 (cs[j]'hj).f1.f1 (cs[j]'hj).f2.f0 (cs[j]'hj).f2.f1 (cs[j]'hj).f3.f0 (cs[j]'hj).f3.f1 l0 l1 l2 = some 4))
    case atStart => exact ⟨0, rfl, ⟨Nat.zero_add _⟩, ⟨Below.refl _ _⟩, ⟨fun j _ h => absurd h (Nat.not_lt_zero j)⟩⟩
    case round =>
      obtain ⟨i, rfl, HI, HW, HP⟩ := hrel
      have BW := Ja38_.mk (Ja47_ BS.out HW.out)
      have HBW := Ja38_.mk (Ja44_ HB.out HW.out)
      have K0 := Ja38_.mk (Kd.C_below C0.out HW.out)
      have K1 := Ja38_.mk (Kd.C_below C1.out HW.out)
      have K2 := Ja38_.mk (Kd.C_below C2.out HW.out)
      have K3 := Ja38_.mk (Kd.C_below C3.out HW.out)
      cases gk with
      | succ k1 =>
        have hil : i < cs.length := by have := HI.out; omega
        have LT0 : Ja38_ ((i : Int) < (cs.length : Int)) := ⟨by omega⟩
        have lt0 : decide ((i : Int) < (cs.length : Int)) = true := decide_eq_true LT0.out
        have lt0n : decide (i < cs.length) = true := decide_eq_true hil
        obtain ⟨ad, ea, hx0, hx1, hx2, hx3, hx4, hx5, hx6⟩ := at_T81 K3.out (i : Int) (by omega) LT0.out
        cases ea
        have hrd : rd_T81 cs (i : Int) = cs[i] := by simp [rd_T81, List.getD_eq_getElem?_getD, hil]
        rw [hrd, Int.toNat_natCast] at hx0 hx1 hx2 hx3 hx4 hx5 hx6
        obtain ⟨kc, hkc⟩ := H.out.hk _ (List.getElem_mem hil)
        have HKN : Ja38_ (kc = 0 ∨ kc = 4 → ∀ (j : Nat) (hj : j < cs.length), j < i + 1 → J33_.f k (cs[j]'hj).f0 (cs[j]'hj).f1.f0 (cs[j]'hj).f1.f1 (cs[j]'hj).f2.f0 (cs[j]'hj).f2.f1 (cs[j]'hj).f3.f0 (cs[j]'hj).f3.f1 l0 l1 l2 = some 0 ∨ J33_.f k (cs[j]'hj).f0 (cs[j]'hj).f1.f0 (cs[j]'hj).f1.f1 (cs[j]'hj).f2.f0 (cs[j]'hj).f2.f1 (cs[j]'hj).f3.f0 (cs[j]'hj).f3.f1 l0 l1 l2 = some 4) := ⟨fun h j hj hji => by
          by_cases ej : j < i
          · exact HP.out j hj ej
          · obtain rfl : j = i := by omega
            rw [hkc]; exact h.imp (congrArg some) (congrArg some)⟩
        generalize cs[i] = x at hx0 hx1 hx2 hx3 hx4 hx5 hx6 hkc
        have HKC := Ja38_.mk hkc
        have HWI : Ja38_ (wrap64 ((i : Int) + 1) = ((i + 1 : Nat) : Int)) := ⟨by have := HN.out; unfold wrap64; omega⟩
        have p0t : ((0 : Int) ≤ (i : Int)) = True := eq_true (by omega)
        have lt0p := eq_true LT0.out
        have lt0q : (i < cs.length) = True := eq_true hil
        clear hkc hrd HP
        have q0 := (Ja39_ BW.out 0).trans (show _ = some (Value.slice A0 l0.length c0) from rfl)
        have q1 := (Ja39_ BW.out 1).trans (show _ = some (Value.slice A1 l1.length c1) from rfl)
        have q2 := (Ja39_ BW.out 2).trans (show _ = some (Value.slice A2 l2.length c2) from rfl)
        go_wp2_with fail
        refine start_ (n := 12) (S := fun w' => w'.cell? ⟨fs, 0, none⟩ = some (.slice A0 l0.length c0) ∧ w'.cell? ⟨fs, 1, none⟩ = some (.slice A1 l1.length c1) ∧ w'.cell? ⟨fs, 2, none⟩ = some (.slice A2 l2.length c2) ∧ w'.cell? (ad.add (i * 7)) = some (.bool x.f0) ∧ w'.cell? ⟨(ad.add (i * 7)).block, (ad.add (i * 7)).off + 1, none⟩ = some (.int .i64 x.f1.f0) ∧ w'.cell? ⟨(ad.add (i * 7)).block, (ad.add (i * 7)).off + 2, none⟩ = some (.int .i64 x.f1.f1) ∧ w'.cell? ⟨(ad.add (i * 7)).block, (ad.add (i * 7)).off + 3, none⟩ = some (.int .i64 x.f2.f0) ∧ w'.cell? ⟨(ad.add (i * 7)).block, (ad.add (i * 7)).off + 4, none⟩ = some (.int .i64 x.f2.f1) ∧ w'.cell? ⟨(ad.add (i * 7)).block, (ad.add (i * 7)).off + 5, none⟩ = some (.int .i64 x.f3.f0) ∧ w'.cell? ⟨(ad.add (i * 7)).block, (ad.add (i * 7)).off + 6, none⟩ = some (.int .i64 x.f3.f1)) (ds := []) (bz_ 12 0) (by kernel_rfl) rfl rfl ⟨q0, q1, q2, hx0, hx1, hx2, hx3, hx4, hx5, hx6⟩ (fun hHeld => ?_); refine with_tabW J21_.tab11 J21_.bits11 (fun HT_ HW_ => ?_)
        replace BW := Ja38_.mk (Ja49_ BW.out)
        replace HBW := Ja38_.mk (Ja42_ HBW.out)
        replace HW := Ja38_.mk (Ja42_ HW.out)
        replace K0 := Ja38_.mk (Kd.C_drew K0.out)
        replace K1 := Ja38_.mk (Kd.C_drew K1.out)
        replace K2 := Ja38_.mk (Kd.C_drew K2.out)
        replace K3 := Ja38_.mk (Kd.C_drew K3.out)
        clear q0 q1 q2 hx0 hx1 hx2 hx3 hx4 hx5 hx6
        generalize wr.drew = wx at BW HBW HW K0 K1 K2 K3 hHeld ⊢
        refine pure_ (i := 0) (N := some 64) (v := ?_) (a' := ?_) (bz_ 12 1) rfl rfl (any_of HT_.out (by kernel_rfl)) (fun _ _ _ h => h) (Or.inl ⟨by rfl, ?_⟩) ?_ ?_
        rotate_left
        · intro w'
          go_simp
          with_reducible rfl
        rotate_left
        · simp only [Act.put, sA_, sB_, sC_, i64_w, i32_w]
          rfl
        refine pure_ (i := 1) (N := some 65) (v := ?_) (a' := ?_) (bz_ 12 3) rfl rfl (any_of HT_.out (by kernel_rfl)) (fun _ _ _ h => h) (Or.inl ⟨by rfl, ?_⟩) ?_ ?_
        rotate_left
        · intro w'
          go_simp
          with_reducible rfl
        rotate_left
        · simp only [Act.put, sA_, sB_, sC_, i64_w, i32_w]
          rfl
        refine pure_ (i := 2) (N := some 66) (v := ?_) (a' := ?_) (bz_ 12 7) rfl rfl (any_of HT_.out (by kernel_rfl)) (fun _ _ _ h => h) (Or.inl ⟨by rfl, ?_⟩) ?_ ?_
        rotate_left
        · intro w'
          go_simp
          with_reducible rfl
        rotate_left
        · simp only [Act.put, sA_, sB_, sC_, i64_w, i32_w]
          rfl
        refine take_ (i := 3) (N := some 67) (v := ?_) (a' := ?_) (bz_ 12 15) rfl rfl (Ja52_ HT_.out HW_.out (by kernel_rfl)) (fun _ _ _ h => h) (Or.inl ⟨by rfl, ?_⟩) hHeld ?_ ?_
        rotate_left
        · rintro w' ⟨s0, s1, s2, s3, s4, s5, s6, s7, s8, s9⟩
          go_simp
          with_reducible rfl
        rotate_left
        · simp only [Act.put, sA_, sB_, sC_, i64_w, i32_w]
          rfl
        refine pure_ (i := 4) (N := some 68) (v := ?_) (a' := ?_) (bz_ 12 31) rfl rfl (any_of HT_.out (by kernel_rfl)) (fun _ _ _ h => h) (Or.inl ⟨by rfl, ?_⟩) ?_ ?_
        rotate_left
        · intro w'
          go_simp
          with_reducible rfl
        rotate_left
        · simp only [Act.put, sA_, sB_, sC_, i64_w, i32_w]
          rfl
        refine take_ (i := 5) (N := some 69) (v := ?_) (a' := ?_) (bz_ 12 63) rfl rfl (Ja52_ HT_.out HW_.out (by kernel_rfl)) (fun _ _ _ h => h) (Or.inl ⟨by rfl, ?_⟩) hHeld ?_ ?_
        rotate_left
        · rintro w' ⟨s0, s1, s2, s3, s4, s5, s6, s7, s8, s9⟩
          go_simp
          with_reducible rfl
        rotate_left
        · simp only [Act.put, sA_, sB_, sC_, i64_w, i32_w]
          rfl
        refine pure_ (i := 6) (N := some 70) (v := ?_) (a' := ?_) (bz_ 12 127) rfl rfl (any_of HT_.out (by kernel_rfl)) (fun _ _ _ h => h) (Or.inl ⟨by rfl, ?_⟩) ?_ ?_
        rotate_left
        · intro w'
          go_simp
          with_reducible rfl
        rotate_left
        · simp only [Act.put, sA_, sB_, sC_, i64_w, i32_w]
          rfl
        refine take_ (i := 7) (N := some 71) (v := ?_) (a' := ?_) (bz_ 12 255) rfl rfl (Ja52_ HT_.out HW_.out (by kernel_rfl)) (fun _ _ _ h => h) (Or.inl ⟨by rfl, ?_⟩) hHeld ?_ ?_
        rotate_left
        · rintro w' ⟨s0, s1, s2, s3, s4, s5, s6, s7, s8, s9⟩
          go_simp
          with_reducible rfl
        rotate_left
        · simp only [Act.put, sA_, sB_, sC_, i64_w, i32_w]
          rfl
        refine pure_ (i := 8) (N := some 72) (v := ?_) (a' := ?_) (bz_ 12 511) rfl rfl (any_of HT_.out (by kernel_rfl)) (fun _ _ _ h => h) (Or.inl ⟨by rfl, ?_⟩) ?_ ?_
        rotate_left
        · intro w'
          go_simp
          with_reducible rfl
        rotate_left
        · simp only [Act.put, sA_, sB_, sC_, i64_w, i32_w]
          rfl
        refine take_ (i := 9) (N := some 73) (v := ?_) (a' := ?_) (bz_ 12 1023) rfl rfl (Ja52_ HT_.out HW_.out (by kernel_rfl)) (fun _ _ _ h => h) (Or.inl ⟨by rfl, ?_⟩) hHeld ?_ ?_
        rotate_left
        · rintro w' ⟨s0, s1, s2, s3, s4, s5, s6, s7, s8, s9⟩
          go_simp
          with_reducible rfl
        rotate_left
        · simp only [Act.put, sA_, sB_, sC_, i64_w, i32_w]
          rfl
        refine one_ (i := 10) (N := some 74) (bz_ 12 2047) rfl rfl (one_of HT_.out (by kernel_rfl)) (by decide) (fun K hK => ?_)
        refine goes_ Try.func77 (by kernel_rfl) rfl #[.agg #[.bool x.f0, .int .i64 x.f1.f0, .int .i64 x.f1.f1, .int .i64 x.f2.f0, .int .i64 x.f2.f1, .int .i64 x.f3.f0, .int .i64 x.f3.f1], .slice A0 l0.length c0, .slice A1 l1.length c1, .slice A2 l2.length c2] (by rfl) rfl rfl (by (try simp only [List.map_toArray, List.map_cons, List.map_nil]); first | done | rfl) ?_
        refine (J33_.calls k x.f0 x.f1.f0 x.f1.f1 x.f2.f0 x.f2.f1 x.f3.f0 x.f3.f1 A0 c0 l0 A1 c1 l1 A2 c2 l2 kc _ K0.out LC0.out K1.out LC1.out K2.out LC2.out HKC.out).mono ?_
        rintro e w9 ⟨rfl, hb⟩
        refine ⟨_, rfl, ?_⟩
        replace BW := Ja38_.mk (Ja47_ BW.out hb)
        replace HBW := Ja38_.mk (Ja44_ HBW.out hb)
        replace HW := Ja38_.mk (Ja44_ HW.out hb)
        have hH9 := hold10_15 hb hHeld
        clear hb
        refine hK.out _ _ hH9 (fun hHeld => ?_)
        clear hH9
        clear hK K
        refine norm_ (a' := ?_) ?_ ?_
        rotate_left
        · show Act.put _ (some 74) _ = _
          simp only [Act.put, sA_, sB_, sC_, i64_w, i32_w]
          rfl
        refine pure_ (i := 11) (N := some 12) (v := ?_) (a' := ?_) (bz_ 12 4095) rfl rfl (any_of HT_.out (by kernel_rfl)) (fun _ _ _ h => h) (Or.inl ⟨by rfl, ?_⟩) ?_ ?_
        rotate_left
        · intro w'
          go_simp
          with_reducible rfl
        rotate_left
        · simp only [Act.put, sA_, sB_, sC_, i64_w, i32_w]
          rfl
        refine done_ (done_of HT_.out (by kernel_rfl)) ?_
        clear hHeld HT_ HW_ HKC
        by_cases k0 : kc = 0
        · subst k0
          go_wp2_with fail
          go_roundg k1
          case measure => omega
          case rel => exact ⟨i + 1, by rw [HWI.out], ⟨by have := HI.out; omega⟩, HW, ⟨HKN.out (by first | decide | simp)⟩⟩
        · by_cases k4 : kc = 4
          · subst k4
            go_wp2_with fail
            go_roundg k1
            case measure => omega
            case rel => exact ⟨i + 1, by rw [HWI.out], ⟨by have := HI.out; omega⟩, HW, ⟨HKN.out (by first | decide | simp)⟩⟩
          · have k0b : decide (kc = 0) = false := decide_eq_false k0
            have k4b : decide (kc = 4) = false := decide_eq_false k4
            have k0n : (kc != 0) = true := bne_iff_ne.mpr k0
            have k4n : (kc != 4) = true := bne_iff_ne.mpr k4
            have k0e : (kc == 0) = false := beq_eq_false_iff_ne.mpr k0
            have k4e : (kc == 4) = false := beq_eq_false_iff_ne.mpr k4
            go_wp2_with fail
            go_ret
            exact ⟨by first | rfl | (simp; done), HBW.out⟩
      | zero =>
        have hil : ¬ i < cs.length := by have := HI.out; omega
        have lt1 : decide ((i : Int) < (cs.length : Int)) = false := decide_eq_false (by omega)
        have lt1n : decide (i < cs.length) = false := decide_eq_false hil
        obtain ⟨s, hj, hs⟩ := H.out.he (fun c hc => by obtain ⟨j, hj, rfl⟩ := List.getElem_of_mem hc; exact HP.out j hj (by have := HI.out; omega))
        have HJ := Ja38_.mk hj
        have HS := Ja38_.mk hs
        have KD := Ja38_.mk (Kd.C_below HD.out HW.out)
        clear hj hs hil
        go_wp2_with fail
        refine (J27_.calls k A2 c2 l2 s _ K2.out LC2.out HJ.out).mono ?_
        rintro e w9 ⟨rfl, hD⟩
        have hb := Drawn0.below hD
        replace KD := Ja38_.mk (Kd.C_below KD.out hb)
        replace HBW := Ja38_.mk (Ja44_ HBW.out hb)
        clear hD hb
        obtain ⟨rfl, rfl⟩ | ⟨hd1, hd2⟩ := HS.out
        · go_wp2_with fail
          go_ret
          exact ⟨by first | rfl | (simp; done), HBW.out⟩
        · obtain ⟨ad, ea, u0, u1, u2, u3, u4, u5, u6, u7, u8⟩ := at_T120 KD.out 0 (Int.le_refl _) (by omega)
          cases ea
          have e0 : ad.add ((0 : Int).toNat * 9) = ad := by simp [Addr.add]
          rw [e0, hd2] at u4
          clear u0 u1 u2 u3 u5 u6 u7 u8 e0 hd2
          rw [hd1]
          by_cases es : s = ⟨#[]⟩
          · subst es
            go_wp2_with fail
            go_ret
            exact ⟨by first | rfl | (simp; done), HBW.out⟩
          · go_wp2_with fail
            all_goals (go_ret; exact ⟨by first | rfl | (simp; done), HBW.out⟩)
end Go.Proofs.Ytadafplbgophfaa.PA
end
section
namespace Go.Proofs.Ytadafplbgophfaa.PA
set_option linter.unusedSimpArgs false
set_option linter.unusedVariables false
open Go.RowKit Go.Proofs.YtadafplbgophfaaW.PrintWords Go.Proofs.YtadafplbgophfaaW.PrintLast Go.Proofs.YtadafplbgophfaaW.PrintMore
namespace FavT
open Chk
theorem seg_drop (l : List ByteArray) {x y : Nat} (h : x ≤ y) : (l.take y).drop x ++ l.drop y = l.drop x := by
  have : l.drop y = (l.drop x).drop (y - x) := by rw [List.drop_drop]; congr 1; omega
  rw [List.drop_take, this, List.take_append_drop]
theorem seg_eq (x y : List ByteArray) {o a n : Nat} (h : ∀ i, i < n → x[o + i]? = y[a + i]?) : (x.take (o + n)).drop o = (y.take (a + n)).drop a := by
  refine List.ext_getElem? (fun i => ?_)
  rw [List.getElem?_drop, List.getElem?_drop, List.getElem?_take, List.getElem?_take]
  by_cases hi : i < n
  · rw [if_pos (by omega), if_pos (by omega), h i hi]
  · rw [if_neg (by omega), if_neg (by omega)]
theorem cut_val (l : List ByteArray) {x y : Int} (h0 : 0 ≤ x) (h1 : x ≤ y) (h2 : y ≤ l.length) : J34_.f x y l = (l.take y.toNat).drop x.toNat := by
  unfold J34_.f
  rw [if_neg (by omega), if_neg (by omega), if_neg (by omega)]
theorem cls_ne (x y z : List ByteArray) : cls false x y z ≠ 0 := by
  unfold cls; repeat' split
  all_goals simp_all
theorem rd_opt (l : List ByteArray) {i : Int} (h0 : 0 ≤ i) (h : i < l.length) : l[i.toNat]? = some (rdOf ByteArray.empty l i) := by
  have : i.toNat < l.length := by omega
  simp [rdOf, List.getD_eq_getElem?_getD, this]
theorem sw_pick {l0 l1 l2 : List ByteArray} {f g : Int → Int}
    (hf : ∀ o, 0 ≤ f o → 0 ≤ o ∧ o < l0.length ∧ f o < l1.length ∧ rdOf ByteArray.empty l0 o = rdOf ByteArray.empty l1 (f o))
    (hg : ∀ o, 0 ≤ g o → 0 ≤ o ∧ o < l0.length ∧ g o < l2.length ∧ rdOf ByteArray.empty l0 o = rdOf ByteArray.empty l2 (g o))
    {o a b : Int} {cs : List S81} (h : Sw f g l0.length l1.length l2.length o a b cs) :
    (∀ c ∈ cs, kls l0 l1 l2 c = 0 ∨ kls l0 l1 l2 c = 4) → (cs.map (pick l0 l1 l2 1)).flatten = l1.drop a.toNat ∧ (cs.map (pick l0 l1 l2 3)).flatten = l2.drop b.toNat := by
  induction h with
  | done o a b hp hm =>
    intro _
    obtain ⟨o0, o1, a0, a1, b0, b1⟩ := hp
    have hm' : ¬ (o < (l0.length : Int) ∨ a < (l1.length : Int) ∨ b < (l2.length : Int)) := hm
    rw [List.drop_of_length_le (by omega), List.drop_of_length_le (by omega)]
    exact ⟨rfl, rfl⟩
  | run o a b n cs hp hm hr hn h ih =>
    intro hk
    obtain ⟨i1, i2⟩ := ih (fun c hc => hk c (List.mem_cons_of_mem _ hc))
    obtain ⟨o0, o1, a0, a1, b0, b1⟩ := hp
    obtain ⟨p0, p1, q0, q1, r0, r1⟩ := h.pos
    obtain ⟨o', rfl⟩ := Int.eq_ofNat_of_zero_le o0
    obtain ⟨a', rfl⟩ := Int.eq_ofNat_of_zero_le a0
    obtain ⟨b', rfl⟩ := Int.eq_ofNat_of_zero_le b0
    obtain ⟨n', rfl⟩ := Int.eq_ofNat_of_zero_le (Int.le_of_lt hn)
    have e1 : ((o' : Int) + (n' : Int)).toNat = o' + n' := by omega
    have e2 : ((a' : Int) + (n' : Int)).toNat = a' + n' := by omega
    have e3 : ((b' : Int) + (n' : Int)).toNat = b' + n' := by omega
    rw [e2] at i1
    rw [e3] at i2
    have hc : cA l0 ⟨true, ⟨o', (o' : Int) + n'⟩, ⟨a', (a' : Int) + n'⟩, ⟨b', (b' : Int) + n'⟩⟩ = (l0.take (o' + n')).drop o' := by
      unfold cA
      rw [cut_val l0 o0 (show (o' : Int) ≤ (o' : Int) + n' by omega) p1]
      simp only [e1, Int.toNat_natCast]
    have s1 : (l0.take (o' + n')).drop o' = (l1.take (a' + n')).drop a' := seg_eq l0 l1 (fun i hi => by
      obtain ⟨x1, x2, x3⟩ := hr.all (i : Int) (by omega) (by omega)
      obtain ⟨y1, y2, y3, y4⟩ := hf ((o' : Int) + i) (by omega)
      rw [x2] at y3 y4
      have z1 := rd_opt l0 y1 y2
      have z2 := rd_opt l1 (i := (a' : Int) + i) (by omega) y3
      rw [show ((o' : Int) + (i : Int)).toNat = o' + i by omega] at z1
      rw [show ((a' : Int) + (i : Int)).toNat = a' + i by omega] at z2
      rw [z1, z2, y4])
    have s2 : (l0.take (o' + n')).drop o' = (l2.take (b' + n')).drop b' := seg_eq l0 l2 (fun i hi => by
      obtain ⟨x1, x2, x3⟩ := hr.all (i : Int) (by omega) (by omega)
      obtain ⟨y1, y2, y3, y4⟩ := hg ((o' : Int) + i) (by omega)
      rw [x3] at y3 y4
      have z1 := rd_opt l0 y1 y2
      have z2 := rd_opt l2 (i := (b' : Int) + i) (by omega) y3
      rw [show ((o' : Int) + (i : Int)).toNat = o' + i by omega] at z1
      rw [show ((b' : Int) + (i : Int)).toNat = b' + i by omega] at z2
      rw [z1, z2, y4])
    have hpk : ∀ fav, pick l0 l1 l2 fav ⟨true, ⟨o', (o' : Int) + n'⟩, ⟨a', (a' : Int) + n'⟩, ⟨b', (b' : Int) + n'⟩⟩ = (l0.take (o' + n')).drop o' := fun fav => by
      rw [← hc]; have k0 : kls l0 l1 l2 ⟨true, ⟨o', (o' : Int) + n'⟩, ⟨a', (a' : Int) + n'⟩, ⟨b', (b' : Int) + n'⟩⟩ = 0 := by unfold kls cls; exact if_pos rfl
      unfold pick; rw [k0]; exact if_pos rfl
    rw [List.map_cons, List.map_cons, List.flatten_cons, List.flatten_cons, hpk, hpk, i1, i2]
    refine ⟨?_, ?_⟩
    · rw [s1, Int.toNat_natCast]; exact seg_drop l1 (by omega)
    · rw [s2, Int.toNat_natCast]; exact seg_drop l2 (by omega)
  | gap o a b t cs hp hm hr hn ht h ih =>
    intro hk
    obtain ⟨i1, i2⟩ := ih (fun c hc => hk c (List.mem_cons_of_mem _ hc))
    obtain ⟨o0, o1, a0, a1, b0, b1⟩ := hp
    obtain ⟨p0, p1, q0, q1, r0, r1⟩ := h.pos
    obtain ⟨w1, w2⟩ := hn.stop ht
    have k4 : kls l0 l1 l2 ⟨false, ⟨o, t⟩, ⟨a, f t⟩, ⟨b, g t⟩⟩ = 4 := (hk _ (List.mem_cons_self ..)).resolve_left (cls_ne _ _ _)
    have e1 : pick l0 l1 l2 1 ⟨false, ⟨o, t⟩, ⟨a, f t⟩, ⟨b, g t⟩⟩ = (l1.take (f t).toNat).drop a.toNat := by
      unfold pick; rw [k4, ← cut_val l1 a0 w1 q1]; rfl
    have e2 : pick l0 l1 l2 3 ⟨false, ⟨o, t⟩, ⟨a, f t⟩, ⟨b, g t⟩⟩ = (l2.take (g t).toNat).drop b.toNat := by
      unfold pick; rw [k4, ← cut_val l2 b0 w2 r1]; rfl
    rw [List.map_cons, List.map_cons, List.flatten_cons, List.flatten_cons, e1, e2, i1, i2]
    exact ⟨seg_drop l1 (by omega), seg_drop l2 (by omega)⟩
  | last o a b hp hm hr hn =>
    intro hk
    obtain ⟨o0, o1, a0, a1, b0, b1⟩ := hp
    have k4 : kls l0 l1 l2 ⟨false, ⟨o, l0.length⟩, ⟨a, l1.length⟩, ⟨b, l2.length⟩⟩ = 4 := (hk _ (List.mem_cons_self ..)).resolve_left (cls_ne _ _ _)
    have e1 : pick l0 l1 l2 1 ⟨false, ⟨o, l0.length⟩, ⟨a, l1.length⟩, ⟨b, l2.length⟩⟩ = l1.drop a.toNat := by
      have := cut_val l1 a0 a1 (Int.le_refl _)
      rw [Int.toNat_natCast, List.take_length] at this
      unfold pick; rw [k4, ← this]; rfl
    have e2 : pick l0 l1 l2 3 ⟨false, ⟨o, l0.length⟩, ⟨a, l1.length⟩, ⟨b, l2.length⟩⟩ = l2.drop b.toNat := by
      have := cut_val l2 b0 b1 (Int.le_refl _)
      rw [Int.toNat_natCast, List.take_length] at this
      unfold pick; rw [k4, ← this]; rfl
    rw [List.map_cons, List.map_cons, List.flatten_cons, List.flatten_cons, e1, e2]
    exact ⟨List.append_nil _, List.append_nil _⟩
theorem ev_all {α β : Type} {F : α → Nat → Option β} {v : α → β} : ∀ (l : List α), (∀ c ∈ l, Ev (F c) (v c)) → ∃ K, ∀ k, K ≤ k → ∀ c ∈ l, F c k = some (v c)
  | [], _ => ⟨0, fun _ _ c hc => by simp at hc⟩
  | x :: l, h => by
    obtain ⟨K, hK⟩ := h x (List.mem_cons_self ..)
    obtain ⟨L, hL⟩ := ev_all l (fun c hc => h c (List.mem_cons_of_mem _ hc))
    refine ⟨K + L, fun k hk c hc => ?_⟩
    rcases List.mem_cons.1 hc with rfl | e
    · exact hK k (by omega)
    · exact hL k (by omega) c e
theorem cat_picks {l0 l1 l2 own : List ByteArray} (fav : Int) (cs : List S81) (h : (cs.map (pick l0 l1 l2 fav)).flatten = own) : cat (cs.map (fun c => cat (pick l0 l1 l2 fav c))) = cat own := by
  subst h
  refine ba_ext ?_
  show catL _ = catL _
  rw [catL_flat, List.map_map]
  unfold catL
  rw [List.flatMap_def, List.map_map]
  congr 1
theorem fav_one (t0 t1 t2 : ByteArray) (fav : Int) (own : List ByteArray → List ByteArray → List ByteArray)
    (hown : ∀ l0 l1 l2 cs f g, Sw f g (l0 : List ByteArray).length (l1 : List ByteArray).length (l2 : List ByteArray).length 0 0 0 cs → (∀ o, 0 ≤ f o → 0 ≤ o ∧ o < l0.length ∧ f o < l1.length ∧ rdOf ByteArray.empty l0 o = rdOf ByteArray.empty l1 (f o)) → (∀ o, 0 ≤ g o → 0 ≤ o ∧ o < l0.length ∧ g o < l2.length ∧ rdOf ByteArray.empty l0 o = rdOf ByteArray.empty l2 (g o)) →
      (∀ c ∈ cs, kls l0 l1 l2 c = 0 ∨ kls l0 l1 l2 c = 4) → (cs.map (pick l0 l1 l2 fav)).flatten = own l1 l2)
    (hsm : ∀ l1 l2 : List ByteArray, own l1 l2 = l1 ∨ own l1 l2 = l2) :
    ∃ k s0 s1 s2 l0 l1 l2 cs ch d, Fav k t0 t1 t2 s0 s1 s2 l0 l1 l2 (own l1 l2) cs ch d fav := by
  obtain ⟨s0, e0, z0⟩ := short_ok t0
  obtain ⟨s1, e1, z1⟩ := short_ok t1
  obtain ⟨s2, e2, z2⟩ := short_ok t2
  obtain ⟨l0, l1, l2, cs, f, g, F⟩ := some_facts s0 s1 s2 z0 z1 z2
  have hts : ∀ t ∈ cs.map (fun c => cat (pick l0 l1 l2 fav c)), t.size ≤ 1000000 := by
    intro t ht
    obtain ⟨c, hc, rfl⟩ := List.mem_map.1 ht
    obtain ⟨p1, p2⟩ := pick_ok F.n0 F.n1 F.n2 F.z0 F.z1 F.z2 fav c
    have := catL_len 200 _ p2
    show (catL (pick l0 l1 l2 fav c)).toArray.size ≤ _
    rw [List.size_toArray]; omega
  have hnc := F.nc
  have ed := of_ok (cs.map (fun c => cat (pick l0 l1 l2 fav c))) (by rw [List.length_map]; omega) hts
  have eg := docGo_ok F.n0 F.n1 F.n2 F.z0 F.z1 F.z2 fav cs [] (by simp only [List.length_nil]; omega)
  rw [List.nil_append, show cs.map (fun c => textPart (cat (pick l0 l1 l2 fav c))) = (cs.map (fun c => cat (pick l0 l1 l2 fav c))).map textPart by rw [List.map_map]; rfl] at eg
  have edd : Ev (fun k => docFav k l0 l1 l2 (cs.map up) fav) (docT (cat (cs.map (fun c => cat (pick l0 l1 l2 fav c))))) := Ev.bind eg ed
  obtain ⟨K1, k1⟩ := F.some
  obtain ⟨K2, k2⟩ := chunks_go cs (by omega)
  obtain ⟨K3, k3⟩ := edd
  obtain ⟨K4, k4⟩ := conf_ok (cat (cs.map (fun c => cat (pick l0 l1 l2 fav c))))
  obtain ⟨K5, k5⟩ := ev_all cs (fun c _ => rclass_ok F.n0 F.n1 (l2 := l2) c)
  have hon : (own l1 l2).length ≤ 1000 ∧ ∀ t ∈ own l1 l2, t.size ≤ 1000000 := by
    rcases hsm l1 l2 with e | e
    · rw [e]; exact ⟨by have := F.n1; omega, fun t ht => by have := F.z1 t ht; omega⟩
    · rw [e]; exact ⟨by have := F.n2; omega, fun t ht => by have := F.z2 t ht; omega⟩
  obtain ⟨K6, k6⟩ := rjoin_ok (own l1 l2) hon.1 hon.2
  have q5 := k5 (K1 + K2 + K3 + K4 + K5 + K6) (by omega)
  refine ⟨K1 + K2 + K3 + K4 + K5 + K6, s0, s1, s2, l0, l1, l2, cs, cs.map up, docT (cat (cs.map (fun c => cat (pick l0 l1 l2 fav c)))), ?_⟩
  refine ⟨e0, e1, e2, k1 _ (by omega), to_ok l0 l1 l2 F.n0 F.n1 F.n2, k2 _ (by omega), k3 _ (by omega), k4 _ (by omega), ?_, fun c hc => ⟨_, q5 c hc⟩, ?_⟩
  · unfold docT; split <;> simp
  · intro hall
    have h4 := hown l0 l1 l2 cs f g F.sw F.hf F.hg (fun c hc => by
      have := hall c hc
      rw [q5 c hc] at this
      exact this.imp Option.some.inj Option.some.inj)
    rw [cat_picks fav cs h4]
    refine ⟨cat (own l1 l2), k6 _ (by omega), ?_⟩
    by_cases he : (cat (own l1 l2)).toList = []
    · left
      refine ⟨str_eq.1 (he.trans emp0.symm), if_pos he⟩
    · right
      have e : docT (cat (own l1 l2)) = [textPart (cat (own l1 l2))] := if_neg he
      rw [e]
      exact ⟨rfl, rfl⟩
theorem fav_left (t0 t1 t2 : ByteArray) : ∃ k s0 s1 s2 l0 l1 l2 cs ch d, Fav k t0 t1 t2 s0 s1 s2 l0 l1 l2 l1 cs ch d 1 :=
  fav_one t0 t1 t2 1 (fun l1 _ => l1) (fun l0 l1 l2 cs f g h hf hg hk => (sw_pick hf hg h hk).1.trans rfl) (fun _ _ => .inl rfl)
theorem fav_right (t0 t1 t2 : ByteArray) : ∃ k s0 s1 s2 l0 l1 l2 cs ch d, Fav k t0 t1 t2 s0 s1 s2 l0 l1 l2 l2 cs ch d 3 :=
  fav_one t0 t1 t2 3 (fun _ l2 => l2) (fun l0 l1 l2 cs f g h hf hg hk => (sw_pick hf hg h hk).2.trans rfl) (fun _ _ => .inr rfl)
end FavT
theorem BuildFavours_walk (t0 t1 t2 : ByteArray) (left : Bool) (w : World) : Calls Try.prog 15 #[.agg #[.string t0, .string t1, .string t2], .bool left] w fun e w' => e = .returned (.bool true) ∧ Below w.heap.size w w' := by
  cases left with
  | true =>
    obtain ⟨k, s0, s1, s2, l0, l1, l2, cs, ch, d, h⟩ := FavT.fav_left t0 t1 t2
    exact J21_.calls true k t0 t1 t2 s0 s1 s2 l0 l1 l2 cs ch d w h
  | false =>
    obtain ⟨k, s0, s1, s2, l0, l1, l2, cs, ch, d, h⟩ := FavT.fav_right t0 t1 t2
    exact J21_.calls false k t0 t1 t2 s0 s1 s2 l0 l1 l2 cs ch d w h
end Go.Proofs.Ytadafplbgophfaa.PA
end
