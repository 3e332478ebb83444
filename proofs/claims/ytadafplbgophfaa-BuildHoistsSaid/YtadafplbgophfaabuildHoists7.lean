/- Part 7 of what the row of the law BuildHoists rests on: walks of functions, and plain lemmas (in part printed by the kit's print, what is not reached left out). -/
import Derived.Test.YtadafplbgophfaabuildHoists6
import Derived.Shelf.Strings.Builder1
import Derived.Shelf.Strings.Builder2
import Derived.Shelf.Strings.OnBuilder
import Derived.Shelf.Strings.BuilderF
import Derived.Shelf.Strings.BuilderK
import Derived.Shelf.Strings.Builder2Cap
import Derived.Shelf.Strings.Search1
import Derived.Shelf.Strings.Search2
import Derived.Shelf.Strings.Search3
import Derived.Shelf.LaysM
import Derived.Shelf.Strings.Shaped
import Derived.Shelf.Strings.Prefix
import Derived.Shelf.Bits.Mul64
import Derived.Shelf.Strings.BuilderCap
import Derived.Shelf.Slices.Equal
import Derived.Ground.Names2Prog
import Derived.Shelf.Slices.Clone
import Derived.Shelf.Slices.Empties2
import Derived.Ground.SlgnProg
import Derived.Shelf.SlicesE.Clone
import Derived.Test.YtadafplbgophfaaProg
section
namespace Go.Proofs
open Go.Shelf
def Try.lays156_ren : Go.Shelf.Ren := ⟨fun | 156 => 149 | 165 => 154 | 166 => 103 | 169 => 105 | 240 => 132 | 241 => 157 | 276 => 144 | 277 => 158 | n => n, fun | 31 => 27 | 9 => 9 | 3 => 3 | 4 => 4 | 0 => 0 | 20 => 20 | 72 => 162 | 76 => 165 | 70 => 159 | 37 => 160 | 75 => 164 | 127 => 203 | 164 => 215 | 5 => 5 | 80 => 168 | n => n, fun | n => n⟩
theorem Try.lays156 : Go.Proofs.Lays.n156 Try.prog Try.lays156_ren := {
  mixed := by kernel_rfl
  f156 := Try.func149.trans (congrArg some (by kernel_rfl))
  f165 := Try.func154.trans (congrArg some (by kernel_rfl))
  f166 := Try.func103.trans (congrArg some (by kernel_rfl))
  f169 := Try.func105.trans (congrArg some (by kernel_rfl))
  f240 := Try.func132.trans (congrArg some (by kernel_rfl))
  f241 := Try.func157.trans (congrArg some (by kernel_rfl))
  f276 := Try.func144.trans (congrArg some (by kernel_rfl))
  f277 := Try.func158.trans (congrArg some (by kernel_rfl))
  t0 := Try.underlying0
  a0 := Try.isAgg0
  z0 := Try.sizeOf0
  v0 := Try.zeroValue0
  t3 := Try.underlying3
  a3 := Try.isAgg3
  z3 := Try.sizeOf3
  v3 := Try.zeroValue3
  t4 := Try.underlying4
  a4 := Try.isAgg4
  z4 := Try.sizeOf4
  v4 := Try.zeroValue4
  t9 := Try.underlying9
  a9 := Try.isAgg9
  z9 := Try.sizeOf9
  v9 := Try.zeroValue9
  t20 := Try.underlying20
  a20 := Try.isAgg20
  z20 := Try.sizeOf20
  v20 := Try.zeroValue20
  t31 := Try.underlying27
  a31 := Try.isAgg27
  z31 := Try.sizeOf27
  v31 := Try.zeroValue27
  t37 := Try.underlying160
  a37 := Try.isAgg160
  z37 := Try.sizeOf160
  v37 := Try.zeroValue160
  t70 := Try.underlying159
  a70 := Try.isAgg159
  z70 := Try.sizeOf159
  v70 := Try.zeroValue159
  t72 := Try.underlying162
  a72 := Try.isAgg162
  z72 := Try.sizeOf162
  v72 := Try.zeroValue162
  t75 := Try.underlying164
  a75 := Try.isAgg164
  z75 := Try.sizeOf164
  v75 := Try.zeroValue164
  t76 := Try.underlying165
  a76 := Try.isAgg165
  z76 := Try.sizeOf165
  v76 := Try.zeroValue165
  t127 := Try.underlying203
  a127 := Try.isAgg203
  z127 := Try.sizeOf203
  v127 := Try.zeroValue203
  t164 := Try.underlying215
  a164 := Try.isAgg215
  z164 := Try.sizeOf215
  v164 := Try.zeroValue215 }
theorem Try.Builder_Extra_156 : Builder.Extra Try.prog Try.lays156_ren := {
  sizeBuilder := by kernel_rfl
  liesBuilder := by kernel_rfl
  t5 := Try.underlying5
  a5 := Try.isAgg5
  z5 := Try.sizeOf5
  v5 := Try.zeroValue5
  infoByte := by kernel_rfl
  cellsByte := by kernel_rfl
  sizeByte := by kernel_rfl
  neB5 := by decide }
open Go.RowKit in
theorem Try.strings_Join_none (a : Option Addr) (c : Nat) (sep : ByteArray) (w : World) :
    Calls Try.prog 149 #[.slice a 0 c, .string sep] w fun e w' => e = .returned (.string ⟨#[]⟩) ∧ w' = w := Any.strings_Join_none Try.lays156 Try.Builder_Extra_156 a c sep w
open Go.RowKit in
theorem Try.strings_Join (bk o c : Nat) (xs : List ByteArray) (sep : ByteArray) (w : World) (hcells : ∀ (j : Nat) x, xs[j]? = some x → w.cell? ⟨bk, o + j, none⟩ = some (.string x)) (hbk : bk < w.heap.size) (hN : xs.length ≤ 140737488355328) (hcap : xs.length ≤ c) (hlen : (Lib.join (xs.map (·.data.toList)) sep.data.toList).length ≤ 140737488355328) :
    Calls Try.prog 149 #[.slice (some ⟨bk, o, none⟩) xs.length c, .string sep] w fun e w' => e = .returned (.string ⟨(Lib.join (xs.map (·.data.toList)) sep.data.toList).toArray⟩) ∧ Below w.heap.size w w' := Any.strings_Join Try.lays156 Try.Builder_Extra_156 bk o c xs sep w hcells hbk hN hcap hlen
def Try.lays144_ren : Go.Shelf.Ren := ⟨fun | 144 => 135 | 143 => 145 | 219 => 148 | 217 => 150 | 225 => 151 | 224 => 152 | 267 => 153 | 266 => 155 | 314 => 156 | n => n, fun | 9 => 9 | 4 => 4 | 3 => 3 | 5 => 5 | 46 => 199 | 146 => 210 | 51 => 209 | n => n, fun | 1 => 0 | n => n⟩
theorem Try.lays144 : Go.Proofs.Lays.n144 Try.prog Try.lays144_ren := {
  mixed := by kernel_rfl
  f143 := Try.func145.trans (congrArg some (by kernel_rfl))
  f144 := Try.func135.trans (congrArg some (by kernel_rfl))
  f217 := Try.func150.trans (congrArg some (by kernel_rfl))
  f219 := Try.func148.trans (congrArg some (by kernel_rfl))
  f224 := Try.func152.trans (congrArg some (by kernel_rfl))
  f225 := Try.func151.trans (congrArg some (by kernel_rfl))
  f266 := Try.func155.trans (congrArg some (by kernel_rfl))
  f267 := Try.func153.trans (congrArg some (by kernel_rfl))
  f314 := Try.func156.trans (congrArg some (by kernel_rfl))
  t3 := Try.underlying3
  a3 := Try.isAgg3
  z3 := Try.sizeOf3
  v3 := Try.zeroValue3
  t4 := Try.underlying4
  a4 := Try.isAgg4
  z4 := Try.sizeOf4
  v4 := Try.zeroValue4
  t5 := Try.underlying5
  a5 := Try.isAgg5
  z5 := Try.sizeOf5
  v5 := Try.zeroValue5
  t9 := Try.underlying9
  a9 := Try.isAgg9
  z9 := Try.sizeOf9
  v9 := Try.zeroValue9
  t46 := Try.underlying199
  a46 := Try.isAgg199
  z46 := Try.sizeOf199
  v46 := Try.zeroValue199
  t51 := Try.underlying209
  a51 := Try.isAgg209
  z51 := Try.sizeOf209
  v51 := Try.zeroValue209
  t146 := Try.underlying210
  a146 := Try.isAgg210
  z146 := Try.sizeOf210
  v146 := Try.zeroValue210
  g1 := by kernel_rfl }
open Go.RowKit Go.Lib in
theorem Try.strings_Contains_one (s : ByteArray) (c : UInt8) (w : World) :
    Calls Try.prog 135 #[.string s, .string ⟨#[c]⟩] w fun e w' => e = .returned (.bool (decide (0 ≤ Lib.indexByte s.data.toList c))) ∧ w' = w := Any.strings_Contains_one Try.lays144 s c w
open Go.RowKit Go.Lib in
theorem Try.strings_Contains (s sub : ByteArray) (m : Int) (w : World) (hs : s.size < 4294967281) (hm : w.cell? ⟨0, 0, none⟩ = some (.int .i64 m)) :
    Calls Try.prog 135 #[.string s, .string sub] w fun e w' => e = .returned (.bool (Lib.contains s.data.toList sub.data.toList)) ∧ w' = w := Any.strings_Contains Try.lays144 s sub m w hs hm
end Go.Proofs
end
section
namespace Go.Proofs.Ytadafplbgophfaa.PA
set_option linter.unusedSimpArgs false
set_option linter.unusedVariables false
open Go.RowKit Go.Proofs.YtadafplbgophfaaW.PrintWords Go.Proofs.YtadafplbgophfaaW.PrintLast Go.Proofs.YtadafplbgophfaaW.PrintMore
def strings_Contains.f (_k : Nat) (a0 a1 : ByteArray) : Option Bool := if a1 = ⟨#[10]⟩ then some (decide (0 ≤ Lib.indexByte a0.data.toList 10)) else none
theorem strings_Contains.calls (k : Nat) (a0 a1 : ByteArray) (r : Bool) (w : World) (h : strings_Contains.f k a0 a1 = some r) :
    Calls Try.prog 135 #[.string a0, .string a1] w fun e w' => e = .returned (.bool r) ∧ Below w.heap.size w w' := by
  unfold strings_Contains.f at h
  split at h
  case isFalse => cases h
  rename_i hG
  subst hG
  simp only [Option.some.injEq] at h
  subst h
  refine (Try.strings_Contains_one a0 10 w).mono ?_
  rintro e w' ⟨rfl, rfl⟩
  exact ⟨rfl, Below.refl _ _⟩
def joined (l : List ByteArray) (sep : ByteArray) : List UInt8 := Lib.join (l.map (·.data.toList)) sep.data.toList
def strings_Join.f (_k : Nat) (l0 : List ByteArray) (a1 : ByteArray) : Option ByteArray := if l0.length ≤ 140737488355328 ∧ (joined l0 a1).length ≤ 140737488355328 then some ⟨(joined l0 a1).toArray⟩ else none
theorem strings_Join.mono : ∀ a0 a1 k, LeO (strings_Join.f k a0 a1) (strings_Join.f (k + 1) a0 a1) := fun _ _ _ => LeO.refl _
theorem strings_Join.calls (k : Nat) (A0 : Option Addr) (c0 : Nat) (l0 : List ByteArray) (a1 : ByteArray) (r : ByteArray) (w : World) (hr0 : Kd.C Kd.string w A0 l0.length l0) (hc0 : l0.length ≤ c0) (h : strings_Join.f k l0 a1 = some r) :
    Calls Try.prog 149 #[.slice A0 l0.length c0, .string a1] w fun e w' => e = .returned (.string r) ∧ Below w.heap.size w w' := by
  unfold strings_Join.f at h
  split at h
  case isFalse => cases h
  rename_i hG
  obtain ⟨hN, hJ⟩ := hG
  simp only [Option.some.injEq] at h
  subst h
  by_cases hl : l0 = []
  · subst hl
    refine (Try.strings_Join_none A0 c0 a1 w).mono ?_
    rintro e w' ⟨rfl, rfl⟩
    exact ⟨rfl, Below.refl _ _⟩
  · have hpos : 0 < l0.length := List.length_pos_iff.2 hl
    obtain ⟨ad, rfl, hc⟩ := Kd.at_string hr0 0 (Int.le_refl _) (by omega)
    have hs : ad.spot = none := by
      cases hsp : ad.spot with
      | none => rfl
      | some v =>
        unfold World.cell? at hc
        split at hc
        · rw [if_pos (by simp [Addr.add, hsp])] at hc; cases hc
        · cases hc
    obtain ⟨bk, o, sp⟩ := ad
    simp only at hs
    subst hs
    refine (Try.strings_Join bk o c0 l0 a1 w (fun j x hj => ?_) (World.block_lt_of_cell? w _ hc) hN hc0 hJ).mono ?_
    · have hjl : j < l0.length := (List.getElem?_eq_some_iff.1 hj).1
      obtain ⟨ad, he, hcj⟩ := Kd.at_string hr0 (j : Int) (by omega) (by omega)
      cases he
      have e : rdOf ByteArray.empty l0 (j : Int) = x := by simp [rdOf, List.getD_eq_getElem?_getD, hj]
      rw [e] at hcj
      by_cases hj0 : j = 0
      · subst hj0
        simpa [Addr.add] using hcj
      · simpa [Addr.add, hj0] using hcj
    · rintro e w' ⟨rfl, hb⟩
      exact ⟨rfl, hb⟩
end Go.Proofs.Ytadafplbgophfaa.PA
end
section
namespace Go.Proofs.Ytadafplbgophfaa.PA
open Go.RowKit Go.Proofs.YtadafplbgophfaaW.PrintWords Go.Proofs.YtadafplbgophfaaW.PrintLast Go.Proofs.YtadafplbgophfaaW.PrintMore
attribute [local go_sem] max2_int min2_int max_two min_two max_three min_three max_four min_four   -- for this text's walks alone
set_option linter.unusedVariables false
set_option linter.unusedSimpArgs false
def lines_Join.f (k : Nat) (l0 : List ByteArray) : Option (ByteArray) := (strings_Join.f k l0 (⟨#[]⟩ : ByteArray)).bind fun t101 => (some t101)
theorem lines_Join.mono : ∀ a0 k, LeO (lines_Join.f k a0) (lines_Join.f (k + 1) a0) := by
 intro a0 k
 unfold lines_Join.f
 repeat' first
   | (with_reducible exact strings_Join.mono _ _ _)
   | (with_reducible exact LeO.refl _)
   | (with_reducible exact LeO.none _)
   | (with_reducible refine LeO.ite ?_ ?_)
   | (with_reducible refine LeO.bind ?_ (fun _ => ?_))
   | exact strings_Join.mono _ _ _
   | exact LeO.none _
   | refine LeO.ite ?_ ?_
   | refine LeO.bind ?_ (fun _ => ?_)
set_option maxHeartbeats 8000000 in
set_option maxRecDepth 100000 in
theorem lines_Join.calls (k : Nat) (A0 : Option Addr) (c0 : Nat) (l0 : List ByteArray) (r : ByteArray) (w : World) (hr0 : Kd.C Kd.string w A0 l0.length l0) (hc0 : l0.length ≤ c0) (h : lines_Join.f k l0 = some r) :
  Calls Try.prog 146 #[.slice A0 l0.length c0] w fun e w' => e = .returned (.string r) ∧ Below w.heap.size w w' := by
 have HR0 := Aside0.mk hr0
 have HC0 := Aside0.mk hc0
 clear hr0 hc0
 have HB := Aside0.mk (Below.refl w.heap.size w)
 have H : ((strings_Join.f k l0 (⟨#[]⟩ : ByteArray)).bind fun t101 => (some t101)) = some r := h
 clear h
 replace H := Option.bind_eq_some_iff.mp H
 obtain ⟨t101, A20, H⟩ := H
 replace H : (some t101) = some r := H
 have A2 := Aside0.mk A20
 clear A20
 obtain rfl := Option.some.inj H
 go_enter Try.func146, Try.ntmps146
 go_wp2_with (first | ((with_reducible refine gate_callee (f := 149) rfl ?_); refine goesL_ (some 4) rfl rfl Try.func149 (by kernel_rfl) rfl #[.slice A0 l0.length c0, .string (⟨#[]⟩ : ByteArray)] rfl (by (try simp only [List.map_toArray, List.map_cons, List.map_nil]); first | done | rfl | (simp only [List.length_drop, List.length_take]; rfl)) ?_; (with_reducible refine (strings_Join.calls k _ _ l0 (⟨#[]⟩ : ByteArray) t101 _ ?side1 ?side2 A2.out).mono ?_); (case side1 => repeat (first | exact HR0.out | (with_reducible refine Kd.C_alloc ?_ _) | (with_reducible refine Kd.C_drewN ?_ _) | (with_reducible refine Kd.C_drew ?_))); (case side2 => exact HC0.out); rintro e w3 ⟨rfl, hb⟩; refine ⟨_, rfl, ?_⟩; have n0_ := Aside0.mk (below_step (by repeat (first | (with_reducible first | exact HB.out | apply below_alloc | apply pw_below_drewN | apply below_drew1) | exact HB.out)) hb); clear HB; have HB := n0_; clear n0_; (try clear hb); (try clear hb2); (try clear hk); (try clear hi)))
 go_ret
 exact ⟨by first | rfl | (simp [errW_none, errW_some] <;> rfl) | (simp [*, errW_none, errW_some] <;> rfl), by repeat (first | (with_reducible first | exact HB.out | apply below_alloc | apply pw_below_drewN | apply below_drew1) | exact HB.out)⟩
end Go.Proofs.Ytadafplbgophfaa.PA
end
section
namespace Go.Proofs.Ytadafplbgophfaa.PA
set_option linter.unusedSimpArgs false
set_option linter.unusedVariables false
open Go.RowKit Go.Proofs.YtadafplbgophfaaW.PrintWords Go.Proofs.YtadafplbgophfaaW.PrintLast Go.Proofs.YtadafplbgophfaaW.PrintMore
structure Bld (w0 w : World) (g : Nat) (ok : Nat → Prop) (v : Value) (lb : S116) (style favour : Int) (l : List S120) : Prop where
 below : Below w0.heap.size w0 w
 ge : w0.heap.size ≤ g
 blk : w.heap[g]? = some (.cells #[.string lb.f0, .string lb.f1, .string lb.f2, .int .i64 style, .int .i64 favour, v] 181 (0, 0))
 own : Kd.R k120 120 w w0.heap.size ok v l
 nog : ¬ ok g
 fresh : ∀ k, w.heap.size ≤ k → ok k
theorem Bld.on {w0 w w1 : World} {g : Nat} {ok : Nat → Prop} {v : Value} {lb : S116} {st fa : Int} {l : List S120} (h : Bld w0 w g ok v lb st fa l) (hb : Below w.heap.size w w1) : Bld w0 w1 g ok v lb st fa l := ⟨below_step h.below hb, h.ge, (hb.block g (blk_lt h.blk)).trans h.blk, Kd.R_below h.own hb, h.nog, fun k hk => h.fresh k (Nat.le_trans hb.size hk)⟩
theorem Bld.drew {w0 w : World} {g : Nat} {ok : Nat → Prop} {v : Value} {lb : S116} {st fa : Int} {l : List S120} (h : Bld w0 w g ok v lb st fa l) : Bld w0 w.drew g ok v lb st fa l := ⟨below_drew h.below, h.ge, h.blk, Kd.R_drew h.own, h.nog, h.fresh⟩
theorem size_set136 (w : World) (p : Addr) (u : Value) : (w.setCell p u).heap.size = w.heap.size := by simp [World.setCell]
def Fr (ok : Nat → Prop) (g : Nat) (w w' : World) : Prop := w.heap.size ≤ w'.heap.size ∧ ∀ k, k < w.heap.size → ¬ ok k → k ≠ g → w'.heap[k]? = w.heap[k]?
theorem Fr.trans {ok : Nat → Prop} {g : Nat} {w w1 w2 : World} (h : Fr ok g w w1) (h' : Fr ok g w1 w2) : Fr ok g w w2 := ⟨Nat.le_trans h.1 h'.1, fun k hk hn hg => (h'.2 k (Nat.lt_of_lt_of_le hk h.1) hn hg).trans (h.2 k hk hn hg)⟩
theorem Fr.of_below {ok : Nat → Prop} {g : Nat} {w w1 : World} (h : Below w.heap.size w w1) : Fr ok g w w1 := ⟨h.size, fun k hk _ _ => h.block k hk⟩
theorem Fr.mono {ok ok' : Nat → Prop} {g : Nat} {w w1 : World} (h : Fr ok' g w w1) (ho : ∀ k, ok' k → ok k) : Fr ok g w w1 := ⟨h.1, fun k hk hn hg => h.2 k hk (fun e => hn (ho k e)) hg⟩
theorem Fr.set {ok : Nat → Prop} {g : Nat} {w w1 : World} (h : Fr ok g w w1) {p : Addr} (u : Value) (hp : w.heap.size ≤ p.block) : Fr ok g w (w1.setCell p u) := ⟨by rw [size_set136]; exact h.1, fun k hk hn hg => (Below.heap_setCell w1 p u k (by omega)).trans (h.2 k hk hn hg)⟩
theorem Bld.shrink {w0 w w' : World} {g : Nat} {ok : Nat → Prop} {v : Value} {lb : S116} {st fa : Int} {l : List S120} (h : Bld w0 w g ok v lb st fa l) (hb : Below w.heap.size w w') (a : Nat) (ha : w.heap.size ≤ a) (hlt : a < w'.heap.size) : Bld w0 w' g (fun k => ok k ∧ k ≠ a) v lb st fa l :=
 ⟨below_step h.below hb, h.ge, (hb.block g (blk_lt h.blk)).trans h.blk, Kd.R_below (Kd.R_elderB h.own a ha) hb, fun e => h.nog e.1, fun k hk => ⟨h.fresh k (Nat.le_trans hb.size hk), by omega⟩⟩
theorem Bld.far {w0 w : World} {g : Nat} {ok : Nat → Prop} {v : Value} {lb : S116} {st fa : Int} {l : List S120} (h : Bld w0 w g ok v lb st fa l) {p : Addr} (u : Value) (hp : ¬ ok p.block) (hg : g ≠ p.block) (hge : w0.heap.size ≤ p.block) : Bld w0 (w.setCell p u) g ok v lb st fa l :=
 ⟨h.below.setCell hge _, h.ge, blk_far h.blk hg u, Kd.R_far h.own (fun k hk e => hp (e ▸ hk)) u, h.nog, fun k hk => h.fresh k (by rw [size_set136] at hk; exact hk)⟩
theorem Bld.widen {w0 w : World} {g : Nat} {ok ok' : Nat → Prop} {v : Value} {lb : S116} {st fa : Int} {l : List S120} (h : Bld w0 w g ok' v lb st fa l) (ho : ∀ k, ok' k → ok k) (hg : ¬ ok g) : Bld w0 w g ok v lb st fa l :=
 ⟨h.below, h.ge, h.blk, Kd.R_mono h.own ho, hg, fun k hk => ho k (h.fresh k hk)⟩
def textPart (r : ByteArray) : S120 := ⟨z116, false, r, ⟨#[]⟩, ⟨#[]⟩, ⟨#[]⟩, false⟩
def build_builder_text.T0 : Bool × List (List Nat × List Nat) := (true, [([], []), ([], []), ([1], [1]), ([2], [2]), ([3], [3]), ([], []), ([5], [5]), ([6], [6]), ([7], [7]), ([4, 8, 6], [4, 8]), ([0, 0, 1, 2, 3, 4, 5, 6, 7, 8, 9], [0]), ([10, 0, 1, 2, 3, 4, 5, 6, 7, 8, 9], [10]), ([11, 9, 9, 0, 1, 2, 3, 4, 5, 6, 7, 8, 9], [9, 11])])
def build_builder_text.B0 : List Nat := [0, 0, 2, 6, 14, 0, 32, 96, 224, 510, 1023, 2047, 4095]
theorem build_builder_text.tab0 : rtab .any (opsOf Try.f136 0) = build_builder_text.T0 := by kernel_rfl
theorem build_builder_text.bits0 : waitsOk build_builder_text.T0.2 build_builder_text.B0 = true := by kernel_rfl
set_option maxHeartbeats 8000000 in
set_option maxRecDepth 100000 in
theorem build_builder_text.calls (k : Nat) (g : Nat) (ok : Nat → Prop) (v : Value) (lb : S116) (style favour : Int) (l : List S120) (A : Option Addr) (c : Nat) (t : List ByteArray) (r : ByteArray) (w0 w : World) (hF : Bld w0 w g ok v lb style favour l)
  (hr : Kd.C Kd.string w A t.length t) (hc : t.length ≤ c) (hl : l.length ≤ 1000000000) (h : lines_Join.f k t = some r) :
  Calls Try.prog 136 #[.pointer (some ⟨g, 0, none⟩), .slice A t.length c] w fun e w' => e = .returned (.tuple #[]) ∧ (∃ v', Bld w0 w' g ok v' lb style favour (l ++ [textPart r])) ∧ Fr ok g w w' := by
 obtain ⟨A7, n7, c7, rfl⟩ : ∃ A n c, v = Value.slice A n c := by obtain ⟨A, c, h⟩ := Kd.R_slice hF.own; exact ⟨A, _, c, h⟩
 have HF := Aside0.mk hF
 have HR := Aside0.mk hr
 have HC := Aside0.mk hc
 have HL := Aside0.mk hl
 have HJ := Aside0.mk h
 have hc5 := (blk_cell hF.blk 5).trans (show _ = some (Value.slice A7 n7 c7) from rfl)
 have hu181 := Try.underlying181
 have hu120 := Try.underlying120
 clear hF hr hc hl h
 go_enter Try.func136, Try.ntmps136
 refine start_ (n := 13) (S := fun w' => w'.cell? ⟨g, 5, none⟩ = some (.slice A7 n7 c7)) (ds := [12]) #[false, false, false, false, false, false, false, false, false, false, false, false, false] (by kernel_rfl) rfl rfl hc5 (fun hHeld => ?_); refine with_tabW build_builder_text.tab0 build_builder_text.bits0 (fun HT_ HW_ => ?_)
 have HC2 := Aside0.mk (Kd.C_drew HR.out)
 have HF2 := Aside0.mk HF.out.drew
 generalize hwd : w.drew = wd at HC2 HF2 hHeld ⊢
 have HWD := Aside0.mk hwd
 clear hwd hc5
 refine pure_ (i := 0) (N := some 4) (v := ?_) (a' := ?_) #[true, false, false, false, false, false, false, false, false, false, false, false, false] rfl rfl (any_of HT_.out (by kernel_rfl)) (fun _ _ _ h => h) (Or.inl ⟨by rfl, ?_⟩) ?_ ?_
 rotate_left
 ·intro w'
  go_simp
  with_reducible rfl
 rotate_left
 ·simp only [Act.put, List.setIfInBounds_toArray, List.set_cons_zero, List.set_cons_succ, i64_w, i32_w]
  rfl
 refine pure_ (i := 1) (N := some 5) (v := ?_) (a' := ?_) #[true, true, false, false, false, false, false, false, false, false, false, false, false] rfl rfl (any_of HT_.out (by kernel_rfl)) (fun _ _ _ h => h) (Or.inl ⟨by rfl, ?_⟩) ?_ ?_
 rotate_left
 ·intro w'
  go_simp
  with_reducible rfl
 rotate_left
 ·simp only [Act.put, List.setIfInBounds_toArray, List.set_cons_zero, List.set_cons_succ, i64_w, i32_w]
  rfl
 refine pure_ (i := 2) (N := some 6) (v := ?_) (a' := ?_) #[true, true, true, false, false, false, false, false, false, false, false, false, false] rfl rfl (any_of HT_.out (by kernel_rfl)) (fun _ _ _ h => h) (Or.inl ⟨by rfl, ?_⟩) ?_ ?_
 rotate_left
 ·intro w'
  go_simp
  with_reducible rfl
 rotate_left
 ·simp only [Act.put, List.setIfInBounds_toArray, List.set_cons_zero, List.set_cons_succ, i64_w, i32_w]
  rfl
 refine pure_ (i := 3) (N := some 7) (v := ?_) (a' := ?_) #[true, true, true, true, false, false, false, false, false, false, false, false, false] rfl rfl (any_of HT_.out (by kernel_rfl)) (fun _ _ _ h => h) (Or.inl ⟨by rfl, ?_⟩) ?_ ?_
 rotate_left
 ·intro w'
  go_simp
  with_reducible rfl
 rotate_left
 ·simp only [Act.put, List.setIfInBounds_toArray, List.set_cons_zero, List.set_cons_succ, i64_w, i32_w]
  rfl
 refine take_ (i := 4) (N := some 8) (v := ?_) (a' := ?_) #[true, true, true, true, true, false, false, false, false, false, false, false, false] rfl rfl (take_ofW HT_.out HW_.out (by kernel_rfl)) (fun _ _ _ h => h) (Or.inl ⟨by rfl, ?_⟩) hHeld ?_ ?_
 rotate_left
 ·rintro w' s0
  go_simp
  with_reducible rfl
 rotate_left
 ·simp only [Act.put, List.setIfInBounds_toArray, List.set_cons_zero, List.set_cons_succ, i64_w, i32_w]
  rfl
 refine pure_ (i := 5) (N := some 9) (v := ?_) (a' := ?_) #[true, true, true, true, true, true, false, false, false, false, false, false, false] rfl rfl (any_of HT_.out (by kernel_rfl)) (fun _ _ _ h => h) (Or.inl ⟨by rfl, ?_⟩) ?_ ?_
 rotate_left
 ·intro w'
  go_simp
  with_reducible rfl
 rotate_left
 ·simp only [Act.put, List.setIfInBounds_toArray, List.set_cons_zero, List.set_cons_succ, i64_w, i32_w]
  rfl
 refine one_ (i := 6) (N := some 10) #[true, true, true, true, true, true, true, false, false, false, false, false, false] rfl rfl (one_of HT_.out (by kernel_rfl)) (by decide) (fun K hK => ?_)
 refine goes_ Try.func146 (by kernel_rfl) rfl #[.slice A t.length c] (by rfl) rfl rfl (by (try simp only [List.map_toArray, List.map_cons, List.map_nil]); first | done | rfl) ?_
 refine (lines_Join.calls k A c t r wd HC2.out HC.out HJ.out).mono ?_
 rintro e w2 ⟨rfl, hb⟩
 refine ⟨_, rfl, ?_⟩
 have HB3 := Aside0.mk hb
 have HF3 := Aside0.mk (HF2.out.on hb)
 clear hb
 refine hK.out _ _ ((blk_cell HF3.out.blk 5).trans (show _ = some _ from rfl)) (fun hHeld => ?_)
 clear hK K
 refine norm_ (a' := ?_) ?_ ?_
 rotate_left
 ·show Act.put _ (some 10) _ = _
  simp only [Act.put, List.setIfInBounds_toArray, List.set_cons_zero, List.set_cons_succ, i64_w, i32_w]
  rfl
 refine pure_ (i := 7) (N := some 11) (v := ?_) (a' := ?_) #[true, true, true, true, true, true, true, true, false, false, false, false, false] rfl rfl (any_of HT_.out (by kernel_rfl)) (fun _ _ _ h => h) (Or.inl ⟨by rfl, ?_⟩) ?_ ?_
 rotate_left
 ·intro w'
  go_simp
  with_reducible rfl
 rotate_left
 ·simp only [Act.put, List.setIfInBounds_toArray, List.set_cons_zero, List.set_cons_succ, i64_w, i32_w]
  rfl
 refine one_ (i := 8) (N := some 12) #[true, true, true, true, true, true, true, true, true, false, false, false, false] rfl rfl (one_of HT_.out (by kernel_rfl)) (by decide) (fun K hK => ?_)
 refine value_ (w1 := ?_) (v := ?_) (by rfl) rfl ?_ ?_
 rotate_left 2
 ·go_simp
  constructor
  ·rfl
  ·rfl
 refine hK.out _ _ ((blk_cell (blk_alloc HF3.out.blk _) 5).trans (show _ = some _ from rfl)) (fun hHeld => ?_)
 clear hK K
 refine norm_ (a' := ?_) ?_ ?_
 rotate_left
 ·show Act.put _ (some 12) _ = _
  simp only [Act.put, List.setIfInBounds_toArray, List.set_cons_zero, List.set_cons_succ, i64_w, i32_w]
  rfl
 refine one_ (i := 9) (N := some 13) #[true, true, true, true, true, true, true, true, true, true, false, false, false] rfl rfl (one_of HT_.out (by kernel_rfl)) (by decide) (fun K hK => ?_)
 refine Kd.R_append_step k120 (w0 := w0) w0.heap.size (by rfl) (.tmp 8) (.tmp 12) 88 120 (.agg #[(.string ⟨#[]⟩), (.string ⟨#[]⟩), (.string ⟨#[]⟩), (.bool false), (.string ⟨#[]⟩), (.string ⟨#[]⟩), (.string ⟨#[]⟩), (.string ⟨#[]⟩), (.bool false)]) 128 rfl Try.underlying88 info120 rfl (by decide) (by decide) (.slice A7 n7 c7) l (textPart r) [.string ⟨#[]⟩, .string ⟨#[]⟩, .string ⟨#[]⟩, .bool false, .string r, .string ⟨#[]⟩, .string ⟨#[]⟩, .string ⟨#[]⟩, .bool false] ok (fun _ => False) rfl rfl (k120_mkM _ _ _ (textPart r)) (fun _ hk => hk.elim) ?aF HF3.out.own HF3.out.below HF3.out.below.size ?aL ?_
 (case aF => exact fun k hk => HF3.out.fresh k hk)
 (case aL => have := HL.out; omega)
 intro v4 w4 ho hb hg hat
 have HO4 := Aside0.mk ho
 have HB4 := Aside0.mk hb
 have HG4 := Aside0.mk hg
 have HK4 := Aside0.mk (blk_grown HF3.out.blk hg (Kd.R_away HF3.out.own (fun _ hk e => HF3.out.nog (e ▸ hk))))
 clear ho hb hg hat
 obtain ⟨A4, n4, c4, rfl⟩ : ∃ A n c, v4 = Value.slice A n c := (by obtain ⟨A, c, h⟩ := Kd.R_slice HO4.out; exact ⟨A, _, c, h⟩)
 have hh3 := (blk_cell HK4.out 5).trans (show _ = some (Value.slice A7 n7 c7) from rfl)
 have hh4 := blk_frozen HK4.out 5
 refine hK.out _ _ hh3 (fun hHeld => ?_)
 clear hK K
 refine norm_ (a' := ?_) ?_ ?_
 rotate_left
 ·show Act.put _ (some 13) _ = _
  simp only [Act.put, List.setIfInBounds_toArray, List.set_cons_zero, List.set_cons_succ, i64_w, i32_w]
  rfl
 refine pure_ (i := 10) (N := some 14) (v := ?_) (a' := ?_) #[true, true, true, true, true, true, true, true, true, true, true, false, false] rfl rfl (any_of HT_.out (by kernel_rfl)) (fun _ _ _ h => h) (Or.inl ⟨by rfl, ?_⟩) ?_ ?_
 rotate_left
 ·intro w'
  go_simp
  with_reducible rfl
 rotate_left
 ·simp only [Act.put, List.setIfInBounds_toArray, List.set_cons_zero, List.set_cons_succ, i64_w, i32_w]
  rfl
 refine pure_ (i := 11) (N := some 15) (v := ?_) (a' := ?_) #[true, true, true, true, true, true, true, true, true, true, true, true, false] rfl rfl (any_of HT_.out (by kernel_rfl)) (fun _ _ _ h => h) (Or.inl ⟨by rfl, ?_⟩) ?_ ?_
 rotate_left
 ·intro w'
  go_simp
  with_reducible rfl
 rotate_left
 ·simp only [Act.put, List.setIfInBounds_toArray, List.set_cons_zero, List.set_cons_succ, i64_w, i32_w]
  rfl
 refine last_ (i := 12) (N := none) #[true, true, true, true, true, true, true, true, true, true, true, true, true] rfl rfl (one_of HT_.out (by kernel_rfl)) (by decide) (fun K hK => ?_)
 refine skip_ (w1 := ?_) (by rfl) rfl ?_ ?_
 rotate_left
 ·go_simp
  rfl
 refine hK.out _ _ ?_
 clear hK K
 refine done_ (done_of HT_.out (by kernel_rfl)) ?_
 try go_wp2
 go_end0
 have hsz : w.heap.size = wd.heap.size := by rw [← HWD.out]; rfl
 refine ⟨rfl, ⟨.slice A4 n4 c4, ⟨HB4.out.setCell HF3.out.ge _, HF3.out.ge, blk_put HK4.out 5 _ rfl, Kd.R_far HO4.out (p := ⟨g, 5, none⟩) (fun k hk e => HF3.out.nog (by have e2 : k = g := e; rw [← e2]; exact hk)) _, HF3.out.nog, fun k hk => HF3.out.fresh k (by rw [size_set136] at hk; exact Nat.le_trans HG4.out.size hk)⟩⟩, ⟨by rw [size_set136, hsz]; exact Nat.le_trans HB3.out.size HG4.out.size, fun k hk hnk hkg => ?_⟩⟩
 rw [Below.heap_setCell w4 ⟨g, 5, none⟩ _ k hkg, HG4.out.block k (Nat.lt_of_lt_of_le (by rw [← hsz]; exact hk) HB3.out.size) (Kd.R_away HF3.out.own (fun j hj e => hnk (e ▸ hj))), HB3.out.block k (by rw [← hsz]; exact hk), ← HWD.out]
 rfl
end Go.Proofs.Ytadafplbgophfaa.PA
end
section
namespace Go.Proofs.Ytadafplbgophfaa.PA
set_option linter.unusedSimpArgs false
set_option linter.unusedVariables false
open Go.RowKit Go.Proofs.YtadafplbgophfaaW.PrintWords Go.Proofs.YtadafplbgophfaaW.PrintLast Go.Proofs.YtadafplbgophfaaW.PrintMore
def hunk (lb : S116) (style : Int) (jb jl jr : ByteArray) : S120 := if style = 0 then ⟨⟨lb.f0, ⟨#[]⟩, lb.f2⟩, true, ⟨#[]⟩, jl, ⟨#[]⟩, jr, false⟩ else ⟨lb, true, ⟨#[]⟩, jl, jb, jr, true⟩
theorem alloc_gen137 {P : World → Prop} {W : World} {cs : Array Value} {t : TypeId} (h : ∀ W', W'.heap[W.heap.size]? = some (.cells cs t (0, 0)) → Below W.heap.size W W' → P W') : P (W.alloc (.cells cs t (0, 0))) := h _ (blk_new W _) (below_alloc (Below.refl _ _) _)
theorem fill9 {w : World} {s : Nat} {z0 z1 z2 z3 z4 z5 z6 z7 z8 : Value} (h : w.heap[s]? = some (.cells #[z0, z1, z2, z3, z4, z5, z6, z7, z8] 120 (0, 0))) (v0 v1 v2 v3 v4 v5 v6 v7 v8 : Value) :
  (((((((((w.setCell ⟨s, 0, none⟩ v0).setCell ⟨s, 1, none⟩ v1).setCell ⟨s, 2, none⟩ v2).setCell ⟨s, 3, none⟩ v3).setCell ⟨s, 4, none⟩ v4).setCell ⟨s, 5, none⟩ v5).setCell ⟨s, 6, none⟩ v6).setCell ⟨s, 7, none⟩ v7).setCell ⟨s, 8, none⟩ v8).heap[s]? = some (.cells #[v0, v1, v2, v3, v4, v5, v6, v7, v8] 120 (0, 0)) := by
 have h0 : (w.setCell ⟨s, 0, none⟩ v0).heap[s]? = some (.cells #[v0, z1, z2, z3, z4, z5, z6, z7, z8] 120 (0, 0)) := blk_put h 0 v0 rfl
 have h1 : ((w.setCell ⟨s, 0, none⟩ v0).setCell ⟨s, 1, none⟩ v1).heap[s]? = some (.cells #[v0, v1, z2, z3, z4, z5, z6, z7, z8] 120 (0, 0)) := blk_put h0 1 v1 rfl
 have h2 : (((w.setCell ⟨s, 0, none⟩ v0).setCell ⟨s, 1, none⟩ v1).setCell ⟨s, 2, none⟩ v2).heap[s]? = some (.cells #[v0, v1, v2, z3, z4, z5, z6, z7, z8] 120 (0, 0)) := blk_put h1 2 v2 rfl
 have h3 : ((((w.setCell ⟨s, 0, none⟩ v0).setCell ⟨s, 1, none⟩ v1).setCell ⟨s, 2, none⟩ v2).setCell ⟨s, 3, none⟩ v3).heap[s]? = some (.cells #[v0, v1, v2, v3, z4, z5, z6, z7, z8] 120 (0, 0)) := blk_put h2 3 v3 rfl
 have h4 : (((((w.setCell ⟨s, 0, none⟩ v0).setCell ⟨s, 1, none⟩ v1).setCell ⟨s, 2, none⟩ v2).setCell ⟨s, 3, none⟩ v3).setCell ⟨s, 4, none⟩ v4).heap[s]? = some (.cells #[v0, v1, v2, v3, v4, z5, z6, z7, z8] 120 (0, 0)) := blk_put h3 4 v4 rfl
 have h5 : ((((((w.setCell ⟨s, 0, none⟩ v0).setCell ⟨s, 1, none⟩ v1).setCell ⟨s, 2, none⟩ v2).setCell ⟨s, 3, none⟩ v3).setCell ⟨s, 4, none⟩ v4).setCell ⟨s, 5, none⟩ v5).heap[s]? = some (.cells #[v0, v1, v2, v3, v4, v5, z6, z7, z8] 120 (0, 0)) := blk_put h4 5 v5 rfl
 have h6 : (((((((w.setCell ⟨s, 0, none⟩ v0).setCell ⟨s, 1, none⟩ v1).setCell ⟨s, 2, none⟩ v2).setCell ⟨s, 3, none⟩ v3).setCell ⟨s, 4, none⟩ v4).setCell ⟨s, 5, none⟩ v5).setCell ⟨s, 6, none⟩ v6).heap[s]? = some (.cells #[v0, v1, v2, v3, v4, v5, v6, z7, z8] 120 (0, 0)) := blk_put h5 6 v6 rfl
 have h7 : ((((((((w.setCell ⟨s, 0, none⟩ v0).setCell ⟨s, 1, none⟩ v1).setCell ⟨s, 2, none⟩ v2).setCell ⟨s, 3, none⟩ v3).setCell ⟨s, 4, none⟩ v4).setCell ⟨s, 5, none⟩ v5).setCell ⟨s, 6, none⟩ v6).setCell ⟨s, 7, none⟩ v7).heap[s]? = some (.cells #[v0, v1, v2, v3, v4, v5, v6, v7, z8] 120 (0, 0)) := blk_put h6 7 v7 rfl
 have h8 : (((((((((w.setCell ⟨s, 0, none⟩ v0).setCell ⟨s, 1, none⟩ v1).setCell ⟨s, 2, none⟩ v2).setCell ⟨s, 3, none⟩ v3).setCell ⟨s, 4, none⟩ v4).setCell ⟨s, 5, none⟩ v5).setCell ⟨s, 6, none⟩ v6).setCell ⟨s, 7, none⟩ v7).setCell ⟨s, 8, none⟩ v8).heap[s]? = some (.cells #[v0, v1, v2, v3, v4, v5, v6, v7, v8] 120 (0, 0)) := blk_put h7 8 v8 rfl
 exact h8
theorem fill2 {w : World} {s : Nat} {z0 z1 z2 z3 z4 z5 z6 z7 z8 : Value} (h : w.heap[s]? = some (.cells #[z0, z1, z2, z3, z4, z5, z6, z7, z8] 120 (0, 0))) (v8 v6 : Value) :
  ((w.setCell ⟨s, 8, none⟩ v8).setCell ⟨s, 6, none⟩ v6).heap[s]? = some (.cells #[z0, z1, z2, z3, z4, z5, v6, z7, v8] 120 (0, 0)) := by
 have h0 : (w.setCell ⟨s, 8, none⟩ v8).heap[s]? = some (.cells #[z0, z1, z2, z3, z4, z5, z6, z7, v8] 120 (0, 0)) := blk_put h 8 v8 rfl
 exact blk_put h0 6 v6 rfl
theorem below_step0 {w wd w' : World} (h : Below w.heap.size w wd) (h' : Below wd.heap.size wd w') : Below w.heap.size w w' := below_step h h'
def build_builder_conflict.T4 : Bool × List (List Nat × List Nat) := (true, [([], []), ([0], [0]), ([1], [1]), ([2], [2]), ([], []), ([4], [4]), ([], []), ([], []), ([7], [7]), ([8], [8]), ([], []), ([9, 10], [9, 10]), ([5, 6, 11], [5, 6, 11]), ([12], [12]), ([], []), ([14], [14]), ([], []), ([], []), ([17], [17]), ([18], [18]), ([], []), ([19, 20], [19, 20]), ([15, 16, 21], [15, 16, 21]), ([22, 13], [22]), ([3, 13, 23], [3, 13, 23]), ([], []), ([25, 24, 23, 0, 1, 2, 3, 4, 5, 6, 7, 8, 9, 10, 11, 12, 13, 14, 15, 16, 17, 18, 19, 20, 21, 22, 23, 24, 25], [24, 25])])
def build_builder_conflict.B4 : List Nat := [0, 1, 3, 7, 0, 16, 0, 0, 128, 384, 0, 1920, 4080, 8176, 0, 16384, 0, 0, 131072, 393216, 0, 1966080, 4177920, 8388592, 16777215, 0, 67108863]
theorem build_builder_conflict.tab4 : rtab .any (opsOf Try.f137 4) = build_builder_conflict.T4 := by kernel_rfl
theorem build_builder_conflict.bits4 : waitsOk build_builder_conflict.T4.2 build_builder_conflict.B4 = true := by kernel_rfl
def build_builder_conflict.T9 : Bool × List (List Nat × List Nat) := (true, [([], []), ([], []), ([1], [1]), ([2], [2]), ([3], [3]), ([], []), ([5], [5]), ([4, 6], [4, 6]), ([0, 0, 1, 2, 3, 4, 5, 6, 7], [0]), ([8, 0, 1, 2, 3, 4, 5, 6, 7], [8]), ([9, 7, 7, 0, 1, 2, 3, 4, 5, 6, 7], [7, 9])])
def build_builder_conflict.B9 : List Nat := [0, 0, 2, 6, 14, 0, 32, 126, 255, 511, 1023]
theorem build_builder_conflict.tab9 : rtab .any (opsOf Try.f137 9) = build_builder_conflict.T9 := by kernel_rfl
theorem build_builder_conflict.bits9 : waitsOk build_builder_conflict.T9.2 build_builder_conflict.B9 = true := by kernel_rfl
set_option maxHeartbeats 8000000 in
set_option maxRecDepth 100000 in
theorem build_builder_conflict.calls (k : Nat) (g : Nat) (ok : Nat → Prop) (v : Value) (lb : S116) (style favour : Int) (l : List S120) (st : Bool) (i0 i1 i2 i3 i4 i5 : Int) (cls : Int)
  (A1 : Option Addr) (c1 : Nat) (b1 : List ByteArray) (A2 : Option Addr) (c2 : Nat) (b2 : List ByteArray) (A3 : Option Addr) (c3 : Nat) (b3 : List ByteArray) (w0 w : World) (hF : Bld w0 w g ok v lb style favour l)
  (hr1 : Kd.F Kd.string w (fun k => ¬ ok k ∧ k ≠ g) A1 b1.length b1) (hc1 : b1.length ≤ c1) (hr2 : Kd.F Kd.string w (fun k => ¬ ok k ∧ k ≠ g) A2 b2.length b2) (hc2 : b2.length ≤ c2) (hr3 : Kd.F Kd.string w (fun k => ¬ ok k ∧ k ≠ g) A3 b3.length b3) (hc3 : b3.length ≤ c3)
  (n m : Int) (h2 : style = 2) (hn : build_Hoist.f k b2 b3 = some (n, m)) (hn0 : 0 ≤ n) (hm0 : 0 ≤ m) (hnm : n + m ≤ b2.length) (hnm3 : n + m ≤ b3.length) (hl : l.length ≤ 900000000)
  (jb jl jr s1 s3 : ByteArray) (hjb : lines_Join.f k b1 = some jb) (hjl : lines_Join.f k ((b2.take ((b2.length : Int) - m).toNat).drop n.toNat) = some jl) (hjr : lines_Join.f k ((b3.take ((b3.length : Int) - m).toNat).drop n.toNat) = some jr)
  (hs1 : lines_Join.f k (b2.take n.toNat) = some s1) (hs3 : lines_Join.f k (b2.drop ((b2.length : Int) - m).toNat) = some s3) :
  Calls Try.prog 137 #[.pointer (some ⟨g, 0, none⟩), .agg #[.bool st, .int .i64 i0, .int .i64 i1, .int .i64 i2, .int .i64 i3, .int .i64 i4, .int .i64 i5, .slice A1 b1.length c1, .slice A2 b2.length c2, .slice A3 b3.length c3, .int .i64 cls]] w fun e w' => e = .returned (.tuple #[]) ∧ (∃ v', Bld w0 w' g ok v' lb style favour (l ++ [textPart s1, hunk lb style jb jl jr, textPart s3])) ∧ Fr ok g w w' := by
 have HF := Aside0.mk hF
 have H1 := Aside0.mk (fun W' (h : Fr ok g w W') => hr1 W' (fun k hk hlt => h.2 k hlt hk.1 hk.2))
 have H2 := Aside0.mk (fun W' (h : Fr ok g w W') => hr2 W' (fun k hk hlt => h.2 k hlt hk.1 hk.2))
 have H3 := Aside0.mk (fun W' (h : Fr ok g w W') => hr3 W' (fun k hk hlt => h.2 k hlt hk.1 hk.2))
 obtain ⟨iz, hinfo, _, hsz, _⟩ := info_parts info9
 obtain ⟨e2, he2⟩ : ∃ e, wrap64 ((b2.length : Int) - m) = e := ⟨_, rfl⟩
 obtain ⟨e3, he3⟩ : ∃ e, wrap64 ((b3.length : Int) - m) = e := ⟨_, rfl⟩
 have he2' : (b2.length : Int) - m = e2 := by have := Kd.F_max hr2; rw [← he2]; unfold wrap64; omega
 have he3' : (b3.length : Int) - m = e3 := by have := Kd.F_max hr3; rw [← he3]; unfold wrap64; omega
 rw [he2'] at hjl hs3
 rw [he3'] at hjr
 obtain ⟨B2, d2, hcut2, hC2, hL2⟩ := cut_lh Kd.string 27 9 Try.underlying27 hinfo hsz A2 c2 b2 n e2 hn0 (by omega) (by omega) hc2
 obtain ⟨B3, d3, hcut3, hC3, hL3⟩ := cut_lh Kd.string 27 9 Try.underlying27 hinfo hsz A3 c3 b3 n e3 hn0 (by omega) (by omega) hc3
 obtain ⟨hcut4, hC4, hL4⟩ := cut_h Kd.string 27 9 Try.underlying27 hinfo hsz A2 c2 b2 n hn0 (by omega) hc2
 obtain ⟨B5, d5, hcut5, hC5, hL5⟩ := cut_l Kd.string 27 9 Try.underlying27 hinfo hsz A2 c2 b2 e2 (by omega) (by omega) hc2
 generalize b2.take n.toNat = t4 at hcut4 hC4 hL4 hs1
 generalize b2.drop e2.toNat = t5 at hcut5 hC5 hL5 hs3
 have HT4 := Aside0.mk (fun W' (h : Fr ok g w W') => hC4 _ (H2.out W' h))
 have HT5 := Aside0.mk (fun W' (h : Fr ok g w W') => hC5 _ (H2.out W' h))
 have HL4 := Aside0.mk hL4
 have HL5 := Aside0.mk hL5
 have HJ := Aside0.mk (And.intro hjb (And.intro hs1 hs3))
 clear hC4 hC5 hL4 hL5
 generalize (b2.take e2.toNat).drop n.toNat = t2 at hcut2 hC2 hL2 hjl
 generalize (b3.take e3.toNat).drop n.toNat = t3 at hcut3 hC3 hL3 hjr
 have HT2 := Aside0.mk (fun W' (h : Fr ok g w W') => hC2 _ (H2.out W' h))
 have HT3 := Aside0.mk (fun W' (h : Fr ok g w W') => hC3 _ (H3.out W' h))
 have HL2 := Aside0.mk hL2
 have HL3 := Aside0.mk hL3
 have HE := Aside0.mk (And.intro he2' (And.intro he3' (And.intro hnm hnm3)))
 have HLL := Aside0.mk hl
 have HN := Aside0.mk (And.intro hn0 hm0)
 have HJS := Aside0.mk (And.intro hjl hjr)
 clear hC2 hC3 hL2 hL3 he2' he3' hjl hjr hjb hs1 hs3 hnm hnm3 hl hn0 hm0
 have hu181 := Try.underlying181
 have hu116 := Try.underlying116
 have hu120 := Try.underlying120
 have hu184 := Try.underlying184
 clear hF hr1 hr2 hr3
 go_enter Try.func137, Try.ntmps137
 have hs2 : (style == 2) = true := beq_iff_eq.mpr h2
 have hs2b : decide (style = 2) = true := decide_eq_true h2
 have hs0 : (style == 0) = false := beq_eq_false_iff_ne.mpr (by omega)
 have hs0b : decide (style = 0) = false := decide_eq_false (by omega)
 go_wp2_with (first | ((with_reducible refine gate_dst (N := 3) rfl ?_); refine box_event ?hg (N := 3) ?hd (cs := #[.bool st, .int .i64 i0, .int .i64 i1, .int .i64 i2, .int .i64 i3, .int .i64 i4, .int .i64 i5, .slice A1 b1.length c1, .slice A2 b2.length c2, .slice A3 b3.length c3, .int .i64 cls]) (t := 184) ?hr ?_; (case hd => rfl); (case hg => rfl); (case hr => first | (go_simp; done) | (go_simp; rfl)); intro g0 hg w1 hbox hb; subst hg; have BP := Aside0.mk hbox; have HF1 := Aside0.mk (HF.out.shrink hb _ (Nat.le_refl _) (blk_lt hbox)); have hst := (blk_cell HF1.out.blk 3).trans (show _ = some (Value.int .i64 style) from rfl); have hp2 := (blk_cell hbox 8).trans (show _ = some (Value.slice A2 b2.length c2) from rfl); have hp3 := (blk_cell hbox 9).trans (show _ = some (Value.slice A3 b3.length c3) from rfl); have HB1 := Aside0.mk hb; clear hbox hb))
 refine (build_Hoist.calls k A2 c2 b2 A3 c3 b3 n m w1 (H2.out _ (Fr.of_below HB1.out)) hc2 (H3.out _ (Fr.of_below HB1.out)) hc3 hn).mono ?_
 rintro e w2 ⟨rfl, hD⟩
 have hb := Drawn0.below hD
 have HB2 := Aside0.mk (below_step HB1.out hb)
 have HF2 := Aside0.mk (HF1.out.on hb)
 have BP2 := Aside0.mk (blk_below BP.out hb)
 clear hD hb HB1 HF1 BP hst hp2 hp3
 have hk0 := (blk_cell HF2.out.blk 0).trans (show _ = some (Value.string lb.f0) from rfl)
 have hk1 := (blk_cell HF2.out.blk 1).trans (show _ = some (Value.string lb.f1) from rfl)
 have hk2 := (blk_cell HF2.out.blk 2).trans (show _ = some (Value.string lb.f2) from rfl)
 have hp2 := (blk_cell BP2.out 8).trans (show _ = some (Value.slice A2 b2.length c2) from rfl)
 have hp3 := (blk_cell BP2.out 9).trans (show _ = some (Value.slice A3 b3.length c3) from rfl)
 go_wp2_with fail
 refine start_ (n := 27) (S := fun w' => w'.cell? ⟨g, 0, none⟩ = some (.string lb.f0) ∧ w'.cell? ⟨g, 1, none⟩ = some (.string lb.f1) ∧ w'.cell? ⟨g, 2, none⟩ = some (.string lb.f2) ∧ w'.cell? ⟨w.heap.size, 8, none⟩ = some (.slice A2 b2.length c2) ∧ w'.cell? ⟨w.heap.size, 9, none⟩ = some (.slice A3 b3.length c3)) (ds := [26]) #[false, false, false, false, false, false, false, false, false, false, false, false, false, false, false, false, false, false, false, false, false, false, false, false, false, false, false] (by kernel_rfl) rfl rfl ⟨hk0, hk1, hk2, hp2, hp3⟩ (fun hHeld => ?_); refine with_tabW build_builder_conflict.tab4 build_builder_conflict.bits4 (fun HT_ HW_ => ?_)
 have HFd := Aside0.mk HF2.out.drew
 have BPd := Aside0.mk (blk_drew BP2.out)
 have HBd := Aside0.mk (below_drew1 HB2.out)
 clear hk0 hk1 hk2 hp2 hp3
 generalize w2.drew = wd at HFd BPd HBd hHeld ⊢
 clear HF2 BP2 HB2
 refine pure_ (i := 0) (N := some 20) (v := ?_) (a' := ?_) #[true, false, false, false, false, false, false, false, false, false, false, false, false, false, false, false, false, false, false, false, false, false, false, false, false, false, false] rfl rfl (any_of HT_.out (by kernel_rfl)) (fun _ _ _ h => h) (Or.inl ⟨by rfl, ?_⟩) ?_ ?_
 rotate_left
 ·intro w'
  go_simp
  with_reducible rfl
 rotate_left
 ·simp only [Act.put, List.setIfInBounds_toArray, List.set_cons_zero, List.set_cons_succ, i64_w, i32_w]
  rfl
 refine pure_ (i := 1) (N := some 21) (v := ?_) (a' := ?_) #[true, true, false, false, false, false, false, false, false, false, false, false, false, false, false, false, false, false, false, false, false, false, false, false, false, false, false] rfl rfl (any_of HT_.out (by kernel_rfl)) (fun _ _ _ h => h) (Or.inl ⟨by rfl, ?_⟩) ?_ ?_
 rotate_left
 ·intro w'
  go_simp
  with_reducible rfl
 rotate_left
 ·simp only [Act.put, List.setIfInBounds_toArray, List.set_cons_zero, List.set_cons_succ, i64_w, i32_w]
  rfl
 refine pure_ (i := 2) (N := some 22) (v := ?_) (a' := ?_) #[true, true, true, false, false, false, false, false, false, false, false, false, false, false, false, false, false, false, false, false, false, false, false, false, false, false, false] rfl rfl (any_of HT_.out (by kernel_rfl)) (fun _ _ _ h => h) (Or.inl ⟨by rfl, ?_⟩) ?_ ?_
 rotate_left
 ·intro w'
  go_simp
  with_reducible rfl
 rotate_left
 ·simp only [Act.put, List.setIfInBounds_toArray, List.set_cons_zero, List.set_cons_succ, i64_w, i32_w]
  rfl
 refine take_ (i := 3) (N := some 23) (v := ?_) (a' := ?_) #[true, true, true, true, false, false, false, false, false, false, false, false, false, false, false, false, false, false, false, false, false, false, false, false, false, false, false] rfl rfl (take_ofW HT_.out HW_.out (by kernel_rfl)) (fun _ _ _ h => h) (Or.inl ⟨by rfl, ?_⟩) hHeld ?_ ?_
 rotate_left
 ·rintro w' ⟨s0, s1, s2, s3, s4⟩
  go_simp
  with_reducible rfl
 rotate_left
 ·simp only [Act.put, List.setIfInBounds_toArray, List.set_cons_zero, List.set_cons_succ, i64_w, i32_w]
  rfl
 refine pure_ (i := 4) (N := some 24) (v := ?_) (a' := ?_) #[true, true, true, true, true, false, false, false, false, false, false, false, false, false, false, false, false, false, false, false, false, false, false, false, false, false, false] rfl rfl (any_of HT_.out (by kernel_rfl)) (fun _ _ _ h => h) (Or.inl ⟨by rfl, ?_⟩) ?_ ?_
 rotate_left
 ·intro w'
  go_simp
  with_reducible rfl
 rotate_left
 ·simp only [Act.put, List.setIfInBounds_toArray, List.set_cons_zero, List.set_cons_succ, i64_w, i32_w]
  rfl
 refine take_ (i := 5) (N := some 25) (v := ?_) (a' := ?_) #[true, true, true, true, true, true, false, false, false, false, false, false, false, false, false, false, false, false, false, false, false, false, false, false, false, false, false] rfl rfl (take_ofW HT_.out HW_.out (by kernel_rfl)) (fun _ _ _ h => h) (Or.inl ⟨by rfl, ?_⟩) hHeld ?_ ?_
 rotate_left
 ·rintro w' ⟨s0, s1, s2, s3, s4⟩
  go_simp
  with_reducible rfl
 rotate_left
 ·simp only [Act.put, List.setIfInBounds_toArray, List.set_cons_zero, List.set_cons_succ, i64_w, i32_w]
  rfl
 refine pure_ (i := 6) (N := some 26) (v := ?_) (a' := ?_) #[true, true, true, true, true, true, true, false, false, false, false, false, false, false, false, false, false, false, false, false, false, false, false, false, false, false, false] rfl rfl (any_of HT_.out (by kernel_rfl)) (fun _ _ _ h => h) (Or.inl ⟨by rfl, ?_⟩) ?_ ?_
 rotate_left
 ·intro w'
  go_simp
  with_reducible rfl
 rotate_left
 ·simp only [Act.put, List.setIfInBounds_toArray, List.set_cons_zero, List.set_cons_succ, i64_w, i32_w]
  rfl
 refine pure_ (i := 7) (N := some 27) (v := ?_) (a' := ?_) #[true, true, true, true, true, true, true, true, false, false, false, false, false, false, false, false, false, false, false, false, false, false, false, false, false, false, false] rfl rfl (any_of HT_.out (by kernel_rfl)) (fun _ _ _ h => h) (Or.inl ⟨by rfl, ?_⟩) ?_ ?_
 rotate_left
 ·intro w'
  go_simp
  with_reducible rfl
 rotate_left
 ·simp only [Act.put, List.setIfInBounds_toArray, List.set_cons_zero, List.set_cons_succ, i64_w, i32_w]
  rfl
 refine take_ (i := 8) (N := some 28) (v := ?_) (a' := ?_) #[true, true, true, true, true, true, true, true, true, false, false, false, false, false, false, false, false, false, false, false, false, false, false, false, false, false, false] rfl rfl (take_ofW HT_.out HW_.out (by kernel_rfl)) (fun _ _ _ h => h) (Or.inl ⟨by rfl, ?_⟩) hHeld ?_ ?_
 rotate_left
 ·rintro w' ⟨s0, s1, s2, s3, s4⟩
  go_simp
  with_reducible rfl
 rotate_left
 ·simp only [Act.put, List.setIfInBounds_toArray, List.set_cons_zero, List.set_cons_succ, i64_w, i32_w]
  rfl
 refine pure_ (i := 9) (N := some 29) (v := ?_) (a' := ?_) #[true, true, true, true, true, true, true, true, true, true, false, false, false, false, false, false, false, false, false, false, false, false, false, false, false, false, false] rfl rfl (any_of HT_.out (by kernel_rfl)) (fun _ _ _ h => h) (Or.inl ⟨by rfl, ?_⟩) ?_ ?_
 rotate_left
 ·intro w'
  go_simp
  with_reducible rfl
 rotate_left
 ·simp only [Act.put, List.setIfInBounds_toArray, List.set_cons_zero, List.set_cons_succ, i64_w, i32_w]
  rfl
 refine pure_ (i := 10) (N := some 30) (v := ?_) (a' := ?_) #[true, true, true, true, true, true, true, true, true, true, true, false, false, false, false, false, false, false, false, false, false, false, false, false, false, false, false] rfl rfl (any_of HT_.out (by kernel_rfl)) (fun _ _ _ h => h) (Or.inl ⟨by rfl, ?_⟩) ?_ ?_
 rotate_left
 ·intro w'
  go_simp
  with_reducible rfl
 rotate_left
 ·simp only [Act.put, List.setIfInBounds_toArray, List.set_cons_zero, List.set_cons_succ, i64_w, i32_w]
  rfl
 refine pure_ (i := 11) (N := some 31) (v := ?_) (a' := ?_) #[true, true, true, true, true, true, true, true, true, true, true, true, false, false, false, false, false, false, false, false, false, false, false, false, false, false, false] rfl rfl (any_of HT_.out (by kernel_rfl)) (fun _ _ _ h => h) (Or.inl ⟨by rfl, ?_⟩) ?_ ?_
 rotate_left
 ·intro w'
  go_simp
  with_reducible rfl
 rotate_left
 ·simp only [Act.put, List.setIfInBounds_toArray, List.set_cons_zero, List.set_cons_succ, i64_w, i32_w, he2]
  rfl
 refine pure_ (i := 12) (N := some 32) (v := ?_) (a' := ?_) #[true, true, true, true, true, true, true, true, true, true, true, true, true, false, false, false, false, false, false, false, false, false, false, false, false, false, false] rfl rfl (any_of HT_.out (by kernel_rfl)) (fun _ _ _ h => h) (Or.inl ⟨by rfl, ?_⟩) ?_ ?_
 rotate_left
 ·intro w'
  go_simp
  first | with_reducible rfl | exact hcut2 _ | (rw [hcut2]; rfl)
 rotate_left
 ·simp only [Act.put, List.setIfInBounds_toArray, List.set_cons_zero, List.set_cons_succ, i64_w, i32_w]
  rfl
 refine pure_ (i := 14) (N := some 34) (v := ?_) (a' := ?_) #[true, true, true, true, true, true, true, true, true, true, true, true, true, false, true, false, false, false, false, false, false, false, false, false, false, false, false] rfl rfl (any_of HT_.out (by kernel_rfl)) (fun _ _ _ h => h) (Or.inl ⟨by rfl, ?_⟩) ?_ ?_
 rotate_left
 ·intro w'
  go_simp
  with_reducible rfl
 rotate_left
 ·simp only [Act.put, List.setIfInBounds_toArray, List.set_cons_zero, List.set_cons_succ, i64_w, i32_w]
  rfl
 refine take_ (i := 15) (N := some 35) (v := ?_) (a' := ?_) #[true, true, true, true, true, true, true, true, true, true, true, true, true, false, true, true, false, false, false, false, false, false, false, false, false, false, false] rfl rfl (take_ofW HT_.out HW_.out (by kernel_rfl)) (fun _ _ _ h => h) (Or.inl ⟨by rfl, ?_⟩) hHeld ?_ ?_
 rotate_left
 ·rintro w' ⟨s0, s1, s2, s3, s4⟩
  go_simp
  with_reducible rfl
 rotate_left
 ·simp only [Act.put, List.setIfInBounds_toArray, List.set_cons_zero, List.set_cons_succ, i64_w, i32_w]
  rfl
 refine pure_ (i := 16) (N := some 36) (v := ?_) (a' := ?_) #[true, true, true, true, true, true, true, true, true, true, true, true, true, false, true, true, true, false, false, false, false, false, false, false, false, false, false] rfl rfl (any_of HT_.out (by kernel_rfl)) (fun _ _ _ h => h) (Or.inl ⟨by rfl, ?_⟩) ?_ ?_
 rotate_left
 ·intro w'
  go_simp
  with_reducible rfl
 rotate_left
 ·simp only [Act.put, List.setIfInBounds_toArray, List.set_cons_zero, List.set_cons_succ, i64_w, i32_w]
  rfl
 refine pure_ (i := 17) (N := some 37) (v := ?_) (a' := ?_) #[true, true, true, true, true, true, true, true, true, true, true, true, true, false, true, true, true, true, false, false, false, false, false, false, false, false, false] rfl rfl (any_of HT_.out (by kernel_rfl)) (fun _ _ _ h => h) (Or.inl ⟨by rfl, ?_⟩) ?_ ?_
 rotate_left
 ·intro w'
  go_simp
  with_reducible rfl
 rotate_left
 ·simp only [Act.put, List.setIfInBounds_toArray, List.set_cons_zero, List.set_cons_succ, i64_w, i32_w]
  rfl
 refine take_ (i := 18) (N := some 38) (v := ?_) (a' := ?_) #[true, true, true, true, true, true, true, true, true, true, true, true, true, false, true, true, true, true, true, false, false, false, false, false, false, false, false] rfl rfl (take_ofW HT_.out HW_.out (by kernel_rfl)) (fun _ _ _ h => h) (Or.inl ⟨by rfl, ?_⟩) hHeld ?_ ?_
 rotate_left
 ·rintro w' ⟨s0, s1, s2, s3, s4⟩
  go_simp
  with_reducible rfl
 rotate_left
 ·simp only [Act.put, List.setIfInBounds_toArray, List.set_cons_zero, List.set_cons_succ, i64_w, i32_w]
  rfl
 refine pure_ (i := 19) (N := some 39) (v := ?_) (a' := ?_) #[true, true, true, true, true, true, true, true, true, true, true, true, true, false, true, true, true, true, true, true, false, false, false, false, false, false, false] rfl rfl (any_of HT_.out (by kernel_rfl)) (fun _ _ _ h => h) (Or.inl ⟨by rfl, ?_⟩) ?_ ?_
 rotate_left
 ·intro w'
  go_simp
  with_reducible rfl
 rotate_left
 ·simp only [Act.put, List.setIfInBounds_toArray, List.set_cons_zero, List.set_cons_succ, i64_w, i32_w]
  rfl
 refine pure_ (i := 20) (N := some 40) (v := ?_) (a' := ?_) #[true, true, true, true, true, true, true, true, true, true, true, true, true, false, true, true, true, true, true, true, true, false, false, false, false, false, false] rfl rfl (any_of HT_.out (by kernel_rfl)) (fun _ _ _ h => h) (Or.inl ⟨by rfl, ?_⟩) ?_ ?_
 rotate_left
 ·intro w'
  go_simp
  with_reducible rfl
 rotate_left
 ·simp only [Act.put, List.setIfInBounds_toArray, List.set_cons_zero, List.set_cons_succ, i64_w, i32_w]
  rfl
 refine pure_ (i := 21) (N := some 41) (v := ?_) (a' := ?_) #[true, true, true, true, true, true, true, true, true, true, true, true, true, false, true, true, true, true, true, true, true, true, false, false, false, false, false] rfl rfl (any_of HT_.out (by kernel_rfl)) (fun _ _ _ h => h) (Or.inl ⟨by rfl, ?_⟩) ?_ ?_
 rotate_left
 ·intro w'
  go_simp
  with_reducible rfl
 rotate_left
 ·simp only [Act.put, List.setIfInBounds_toArray, List.set_cons_zero, List.set_cons_succ, i64_w, i32_w, he3]
  rfl
 refine pure_ (i := 22) (N := some 42) (v := ?_) (a' := ?_) #[true, true, true, true, true, true, true, true, true, true, true, true, true, false, true, true, true, true, true, true, true, true, true, false, false, false, false] rfl rfl (any_of HT_.out (by kernel_rfl)) (fun _ _ _ h => h) (Or.inl ⟨by rfl, ?_⟩) ?_ ?_
 rotate_left
 ·intro w'
  go_simp
  first | with_reducible rfl | exact hcut3 _ | (rw [hcut3]; rfl)
 rotate_left
 ·simp only [Act.put, List.setIfInBounds_toArray, List.set_cons_zero, List.set_cons_succ, i64_w, i32_w]
  rfl
 have HB0 := Aside0.mk (Below.refl wd.heap.size wd)
 have HF0 := HFd
 have BP0 := BPd
 refine join_ (σ := Nat) 1 #[true, true, true, true, true, true, true, true, true, true, true, true, true, true, true, true, true, true, true, true, true, true, true, true, true, true, false] (fun s => [(33, .string jl), (43, .string jr), (44, .agg #[.string lb.f0, .string lb.f1, .string lb.f2, .bool true, .string ⟨#[]⟩, .string jl, .string ⟨#[]⟩, .string jr, .bool false]), (6, .pointer (some ⟨s, 0, none⟩))]) (fun s w' => (w'.cell? ⟨g, 0, none⟩ = some (.string lb.f0) ∧ w'.cell? ⟨g, 1, none⟩ = some (.string lb.f1) ∧ w'.cell? ⟨g, 2, none⟩ = some (.string lb.f2) ∧ w'.cell? ⟨w.heap.size, 8, none⟩ = some (.slice A2 b2.length c2) ∧ w'.cell? ⟨w.heap.size, 9, none⟩ = some (.slice A3 b3.length c3)) ∧ Bld w0 w' g (fun k => ok k ∧ k ≠ w.heap.size) v lb style favour l ∧ w'.heap[w.heap.size]? = some (.cells #[.bool st, .int .i64 i0, .int .i64 i1, .int .i64 i2, .int .i64 i3, .int .i64 i4, .int .i64 i5, .slice A1 b1.length c1, .slice A2 b2.length c2, .slice A3 b3.length c3, .int .i64 cls] 184 (0, 0)) ∧ w'.heap[s]? = some (.cells #[.string ⟨#[]⟩, .string ⟨#[]⟩, .string ⟨#[]⟩, .bool false, .string ⟨#[]⟩, .string ⟨#[]⟩, .string ⟨#[]⟩, .string ⟨#[]⟩, .bool false] 120 (0, 0)) ∧ Below wd.heap.size wd w' ∧ wd.heap.size ≤ s) ?_ ?_
 rotate_left
 ·intro hJ
  refine two_ (i := 13) (j := 25) (Ni := some 33) (Nj := some 6) #[true, true, true, true, true, true, true, true, true, true, true, true, true, true, true, true, true, true, true, true, true, true, true, false, false, false, false] #[true, true, true, true, true, true, true, true, true, true, true, true, true, false, true, true, true, true, true, true, true, true, true, false, false, true, false] rfl rfl rfl rfl (two_of HT_.out (by kernel_rfl)) (by decide) (by decide) (fun K hK => ?_) (fun K hK => ?_)
  ·skip
   refine goes_ Try.func146 (by kernel_rfl) rfl #[.slice B2 t2.length d2] (by rfl) rfl rfl (by (try simp only [List.map_toArray, List.map_cons, List.map_nil]); first | done | rfl) ?_
   refine (lines_Join.calls k B2 d2 t2 jl _ (HT2.out _ (Fr.of_below (below_step0 HBd.out HB0.out))) HL2.out HJS.out.1).mono ?_
   rintro e w' ⟨rfl, hb⟩
   refine ⟨_, rfl, ?_⟩
   have HFq1 := Aside0.mk (HF0.out.on hb)
   have BPq1 := Aside0.mk (blk_below BP0.out hb)
   have HBq1 := Aside0.mk (below_step HB0.out hb)
   clear hb
   refine hK.out _ _ ⟨(blk_cell HFq1.out.blk 0).trans (show _ = some _ from rfl), (blk_cell HFq1.out.blk 1).trans (show _ = some _ from rfl), (blk_cell HFq1.out.blk 2).trans (show _ = some _ from rfl), (blk_cell BPq1.out 8).trans (show _ = some _ from rfl), (blk_cell BPq1.out 9).trans (show _ = some _ from rfl)⟩ (fun hHeld => ?_)
   clear hK K
   refine norm_ (a' := ?_) ?_ ?_
   rotate_left
   ·show Act.put _ (some 33) _ = _
    simp only [Act.put, List.setIfInBounds_toArray, List.set_cons_zero, List.set_cons_succ, i64_w, i32_w]
    rfl
   refine two_ (i := 23) (j := 25) (Ni := some 43) (Nj := some 6) #[true, true, true, true, true, true, true, true, true, true, true, true, true, true, true, true, true, true, true, true, true, true, true, true, false, false, false] #[true, true, true, true, true, true, true, true, true, true, true, true, true, true, true, true, true, true, true, true, true, true, true, false, false, true, false] rfl rfl rfl rfl (two_of HT_.out (by kernel_rfl)) (by decide) (by decide) (fun K hK => ?_) (fun K hK => ?_)
   ·skip
    refine goes_ Try.func146 (by kernel_rfl) rfl #[.slice B3 t3.length d3] (by rfl) rfl rfl (by (try simp only [List.map_toArray, List.map_cons, List.map_nil]); first | done | rfl) ?_
    refine (lines_Join.calls k B3 d3 t3 jr _ (HT3.out _ (Fr.of_below (below_step0 HBd.out HBq1.out))) HL3.out HJS.out.2).mono ?_
    rintro e w' ⟨rfl, hb⟩
    refine ⟨_, rfl, ?_⟩
    have HFq2 := Aside0.mk (HFq1.out.on hb)
    have BPq2 := Aside0.mk (blk_below BPq1.out hb)
    have HBq2 := Aside0.mk (below_step HBq1.out hb)
    clear hb
    refine hK.out _ _ ⟨(blk_cell HFq2.out.blk 0).trans (show _ = some _ from rfl), (blk_cell HFq2.out.blk 1).trans (show _ = some _ from rfl), (blk_cell HFq2.out.blk 2).trans (show _ = some _ from rfl), (blk_cell BPq2.out 8).trans (show _ = some _ from rfl), (blk_cell BPq2.out 9).trans (show _ = some _ from rfl)⟩ (fun hHeld => ?_)
    clear hK K
    refine norm_ (a' := ?_) ?_ ?_
    rotate_left
    ·show Act.put _ (some 43) _ = _
     simp only [Act.put, List.setIfInBounds_toArray, List.set_cons_zero, List.set_cons_succ, i64_w, i32_w]
     rfl
    refine pure_ (i := 24) (N := some 44) (v := ?_) (a' := ?_) #[true, true, true, true, true, true, true, true, true, true, true, true, true, true, true, true, true, true, true, true, true, true, true, true, true, false, false] rfl rfl (any_of HT_.out (by kernel_rfl)) (fun _ _ _ h => h) (Or.inl ⟨by rfl, ?_⟩) ?_ ?_
    rotate_left
    ·intro w'
     go_simp
     with_reducible rfl
    rotate_left
    ·simp only [Act.put, List.setIfInBounds_toArray, List.set_cons_zero, List.set_cons_succ, i64_w, i32_w]
     rfl
    refine one_ (i := 25) (N := some 6) #[true, true, true, true, true, true, true, true, true, true, true, true, true, true, true, true, true, true, true, true, true, true, true, true, true, true, false] rfl rfl (one_of HT_.out (by kernel_rfl)) (by decide) (fun K hK => ?_)
    refine value_ (w1 := ?_) (v := ?_) (by rfl) rfl ?_ ?_
    rotate_left 2
    ·go_simp
     constructor
     ·rfl
     ·rfl
    refine alloc_gen137 (P := fun W => K _ W) (fun W' hs hba => ?_)
    have HFq3 := Aside0.mk (HFq2.out.on hba)
    have BPq3 := Aside0.mk (blk_below BPq2.out hba)
    have HBq3 := Aside0.mk (below_step HBq2.out hba)
    have BSq3 := Aside0.mk hs
    have GE := Aside0.mk (below_size HBq2.out)
    clear hs hba
    refine hK.out _ _ ⟨(blk_cell HFq3.out.blk 0).trans (show _ = some _ from rfl), (blk_cell HFq3.out.blk 1).trans (show _ = some _ from rfl), (blk_cell HFq3.out.blk 2).trans (show _ = some _ from rfl), (blk_cell BPq3.out 8).trans (show _ = some _ from rfl), (blk_cell BPq3.out 9).trans (show _ = some _ from rfl)⟩ (fun hHeld => ?_)
    clear hK K
    refine norm_ (a' := ?_) ?_ ?_
    rotate_left
    ·show Act.put _ (some 6) _ = _
     simp only [Act.put, List.setIfInBounds_toArray, List.set_cons_zero, List.set_cons_succ, i64_w, i32_w]
     rfl
    exact norm_ (by first | (simp only [putAll, Act.put, List.setIfInBounds_toArray, List.set_cons_zero, List.set_cons_succ]; done) | (simp only [putAll, Act.put, List.setIfInBounds_toArray, List.set_cons_zero, List.set_cons_succ]; rfl)) (hJ _ _ ⟨hHeld, HFq3.out, BPq3.out, BSq3.out, HBq3.out, GE.out⟩)
   ·skip
    refine value_ (w1 := ?_) (v := ?_) (by rfl) rfl ?_ ?_
    rotate_left 2
    ·go_simp
     constructor
     ·rfl
     ·rfl
    refine alloc_gen137 (P := fun W => K _ W) (fun W' hs hba => ?_)
    have HFq4 := Aside0.mk (HFq1.out.on hba)
    have BPq4 := Aside0.mk (blk_below BPq1.out hba)
    have HBq4 := Aside0.mk (below_step HBq1.out hba)
    have BSq4 := Aside0.mk hs
    have GE := Aside0.mk (below_size HBq1.out)
    clear hs hba
    refine hK.out _ _ ⟨(blk_cell HFq4.out.blk 0).trans (show _ = some _ from rfl), (blk_cell HFq4.out.blk 1).trans (show _ = some _ from rfl), (blk_cell HFq4.out.blk 2).trans (show _ = some _ from rfl), (blk_cell BPq4.out 8).trans (show _ = some _ from rfl), (blk_cell BPq4.out 9).trans (show _ = some _ from rfl)⟩ (fun hHeld => ?_)
    clear hK K
    refine norm_ (a' := ?_) ?_ ?_
    rotate_left
    ·show Act.put _ (some 6) _ = _
     simp only [Act.put, List.setIfInBounds_toArray, List.set_cons_zero, List.set_cons_succ, i64_w, i32_w]
     rfl
    refine one_ (i := 23) (N := some 43) #[true, true, true, true, true, true, true, true, true, true, true, true, true, true, true, true, true, true, true, true, true, true, true, true, false, true, false] rfl rfl (one_of HT_.out (by kernel_rfl)) (by decide) (fun K hK => ?_)
    refine goes_ Try.func146 (by kernel_rfl) rfl #[.slice B3 t3.length d3] (by rfl) rfl rfl (by (try simp only [List.map_toArray, List.map_cons, List.map_nil]); first | done | rfl) ?_
    refine (lines_Join.calls k B3 d3 t3 jr _ (HT3.out _ (Fr.of_below (below_step0 HBd.out HBq4.out))) HL3.out HJS.out.2).mono ?_
    rintro e w' ⟨rfl, hb⟩
    refine ⟨_, rfl, ?_⟩
    have HFq5 := Aside0.mk (HFq4.out.on hb)
    have BPq5 := Aside0.mk (blk_below BPq4.out hb)
    have HBq5 := Aside0.mk (below_step HBq4.out hb)
    have BSq5 := Aside0.mk (blk_below BSq4.out hb)
    clear hb
    refine hK.out _ _ ⟨(blk_cell HFq5.out.blk 0).trans (show _ = some _ from rfl), (blk_cell HFq5.out.blk 1).trans (show _ = some _ from rfl), (blk_cell HFq5.out.blk 2).trans (show _ = some _ from rfl), (blk_cell BPq5.out 8).trans (show _ = some _ from rfl), (blk_cell BPq5.out 9).trans (show _ = some _ from rfl)⟩ (fun hHeld => ?_)
    clear hK K
    refine norm_ (a' := ?_) ?_ ?_
    rotate_left
    ·show Act.put _ (some 43) _ = _
     simp only [Act.put, List.setIfInBounds_toArray, List.set_cons_zero, List.set_cons_succ, i64_w, i32_w]
     rfl
    refine pure_ (i := 24) (N := some 44) (v := ?_) (a' := ?_) #[true, true, true, true, true, true, true, true, true, true, true, true, true, true, true, true, true, true, true, true, true, true, true, true, true, true, false] rfl rfl (any_of HT_.out (by kernel_rfl)) (fun _ _ _ h => h) (Or.inl ⟨by rfl, ?_⟩) ?_ ?_
    rotate_left
    ·intro w'
     go_simp
     with_reducible rfl
    rotate_left
    ·simp only [Act.put, List.setIfInBounds_toArray, List.set_cons_zero, List.set_cons_succ, i64_w, i32_w]
     rfl
    exact norm_ (by first | (simp only [putAll, Act.put, List.setIfInBounds_toArray, List.set_cons_zero, List.set_cons_succ]; done) | (simp only [putAll, Act.put, List.setIfInBounds_toArray, List.set_cons_zero, List.set_cons_succ]; rfl)) (hJ _ _ ⟨hHeld, HFq5.out, BPq5.out, BSq5.out, HBq5.out, GE.out⟩)
  ·skip
   refine value_ (w1 := ?_) (v := ?_) (by rfl) rfl ?_ ?_
   rotate_left 2
   ·go_simp
    constructor
    ·rfl
    ·rfl
   refine alloc_gen137 (P := fun W => K _ W) (fun W' hs hba => ?_)
   have HFq6 := Aside0.mk (HF0.out.on hba)
   have BPq6 := Aside0.mk (blk_below BP0.out hba)
   have HBq6 := Aside0.mk (below_step HB0.out hba)
   have BSq6 := Aside0.mk hs
   have GE := Aside0.mk (below_size HB0.out)
   clear hs hba
   refine hK.out _ _ ⟨(blk_cell HFq6.out.blk 0).trans (show _ = some _ from rfl), (blk_cell HFq6.out.blk 1).trans (show _ = some _ from rfl), (blk_cell HFq6.out.blk 2).trans (show _ = some _ from rfl), (blk_cell BPq6.out 8).trans (show _ = some _ from rfl), (blk_cell BPq6.out 9).trans (show _ = some _ from rfl)⟩ (fun hHeld => ?_)
   clear hK K
   refine norm_ (a' := ?_) ?_ ?_
   rotate_left
   ·show Act.put _ (some 6) _ = _
    simp only [Act.put, List.setIfInBounds_toArray, List.set_cons_zero, List.set_cons_succ, i64_w, i32_w]
    rfl
   refine one_ (i := 13) (N := some 33) #[true, true, true, true, true, true, true, true, true, true, true, true, true, true, true, true, true, true, true, true, true, true, true, false, false, true, false] rfl rfl (one_of HT_.out (by kernel_rfl)) (by decide) (fun K hK => ?_)
   refine goes_ Try.func146 (by kernel_rfl) rfl #[.slice B2 t2.length d2] (by rfl) rfl rfl (by (try simp only [List.map_toArray, List.map_cons, List.map_nil]); first | done | rfl) ?_
   refine (lines_Join.calls k B2 d2 t2 jl _ (HT2.out _ (Fr.of_below (below_step0 HBd.out HBq6.out))) HL2.out HJS.out.1).mono ?_
   rintro e w' ⟨rfl, hb⟩
   refine ⟨_, rfl, ?_⟩
   have HFq7 := Aside0.mk (HFq6.out.on hb)
   have BPq7 := Aside0.mk (blk_below BPq6.out hb)
   have HBq7 := Aside0.mk (below_step HBq6.out hb)
   have BSq7 := Aside0.mk (blk_below BSq6.out hb)
   clear hb
   refine hK.out _ _ ⟨(blk_cell HFq7.out.blk 0).trans (show _ = some _ from rfl), (blk_cell HFq7.out.blk 1).trans (show _ = some _ from rfl), (blk_cell HFq7.out.blk 2).trans (show _ = some _ from rfl), (blk_cell BPq7.out 8).trans (show _ = some _ from rfl), (blk_cell BPq7.out 9).trans (show _ = some _ from rfl)⟩ (fun hHeld => ?_)
   clear hK K
   refine norm_ (a' := ?_) ?_ ?_
   rotate_left
   ·show Act.put _ (some 33) _ = _
    simp only [Act.put, List.setIfInBounds_toArray, List.set_cons_zero, List.set_cons_succ, i64_w, i32_w]
    rfl
   refine one_ (i := 23) (N := some 43) #[true, true, true, true, true, true, true, true, true, true, true, true, true, true, true, true, true, true, true, true, true, true, true, true, false, true, false] rfl rfl (one_of HT_.out (by kernel_rfl)) (by decide) (fun K hK => ?_)
   refine goes_ Try.func146 (by kernel_rfl) rfl #[.slice B3 t3.length d3] (by rfl) rfl rfl (by (try simp only [List.map_toArray, List.map_cons, List.map_nil]); first | done | rfl) ?_
   refine (lines_Join.calls k B3 d3 t3 jr _ (HT3.out _ (Fr.of_below (below_step0 HBd.out HBq7.out))) HL3.out HJS.out.2).mono ?_
   rintro e w' ⟨rfl, hb⟩
   refine ⟨_, rfl, ?_⟩
   have HFq8 := Aside0.mk (HFq7.out.on hb)
   have BPq8 := Aside0.mk (blk_below BPq7.out hb)
   have HBq8 := Aside0.mk (below_step HBq7.out hb)
   have BSq8 := Aside0.mk (blk_below BSq7.out hb)
   clear hb
   refine hK.out _ _ ⟨(blk_cell HFq8.out.blk 0).trans (show _ = some _ from rfl), (blk_cell HFq8.out.blk 1).trans (show _ = some _ from rfl), (blk_cell HFq8.out.blk 2).trans (show _ = some _ from rfl), (blk_cell BPq8.out 8).trans (show _ = some _ from rfl), (blk_cell BPq8.out 9).trans (show _ = some _ from rfl)⟩ (fun hHeld => ?_)
   clear hK K
   refine norm_ (a' := ?_) ?_ ?_
   rotate_left
   ·show Act.put _ (some 43) _ = _
    simp only [Act.put, List.setIfInBounds_toArray, List.set_cons_zero, List.set_cons_succ, i64_w, i32_w]
    rfl
   refine pure_ (i := 24) (N := some 44) (v := ?_) (a' := ?_) #[true, true, true, true, true, true, true, true, true, true, true, true, true, true, true, true, true, true, true, true, true, true, true, true, true, true, false] rfl rfl (any_of HT_.out (by kernel_rfl)) (fun _ _ _ h => h) (Or.inl ⟨by rfl, ?_⟩) ?_ ?_
   rotate_left
   ·intro w'
    go_simp
    with_reducible rfl
   rotate_left
   ·simp only [Act.put, List.setIfInBounds_toArray, List.set_cons_zero, List.set_cons_succ, i64_w, i32_w]
    rfl
   exact norm_ (by first | (simp only [putAll, Act.put, List.setIfInBounds_toArray, List.set_cons_zero, List.set_cons_succ]; done) | (simp only [putAll, Act.put, List.setIfInBounds_toArray, List.set_cons_zero, List.set_cons_succ]; rfl)) (hJ _ _ ⟨hHeld, HFq8.out, BPq8.out, BSq8.out, HBq8.out, GE.out⟩)
 rintro s4 w4 ⟨hHeld, hf, hbp, hbs, hb, hge⟩
 have HF4 := Aside0.mk hf
 have BP4 := Aside0.mk hbp
 have BS4 := Aside0.mk hbs
 have HB4 := Aside0.mk hb
 have GE4 := Aside0.mk hge
 clear hf hbp hbs hb hge HB0 HF0 BP0
 refine norm_ (a' := ?_) ?_ ?_
 rotate_left
 ·simp only [putAll, Act.put, List.setIfInBounds_toArray, List.set_cons_zero, List.set_cons_succ]
  rfl
 have hz0 := blk_frozen BS4.out 0
 have hy0 := (blk_cell BS4.out 0).trans (show _ = some _ from rfl)
 have hz0 := blk_frozen BS4.out 0
 have hy1 := (blk_cell BS4.out 1).trans (show _ = some _ from rfl)
 have hz1 := blk_frozen BS4.out 1
 have hy2 := (blk_cell BS4.out 2).trans (show _ = some _ from rfl)
 have hz2 := blk_frozen BS4.out 2
 have hy3 := (blk_cell BS4.out 3).trans (show _ = some _ from rfl)
 have hz3 := blk_frozen BS4.out 3
 have hy4 := (blk_cell BS4.out 4).trans (show _ = some _ from rfl)
 have hz4 := blk_frozen BS4.out 4
 have hy5 := (blk_cell BS4.out 5).trans (show _ = some _ from rfl)
 have hz5 := blk_frozen BS4.out 5
 have hy6 := (blk_cell BS4.out 6).trans (show _ = some _ from rfl)
 have hz6 := blk_frozen BS4.out 6
 have hy7 := (blk_cell BS4.out 7).trans (show _ = some _ from rfl)
 have hz7 := blk_frozen BS4.out 7
 have hy8 := (blk_cell BS4.out 8).trans (show _ = some _ from rfl)
 have hz8 := blk_frozen BS4.out 8
 refine last_ (i := 26) (N := none) #[true, true, true, true, true, true, true, true, true, true, true, true, true, true, true, true, true, true, true, true, true, true, true, true, true, true, true] rfl rfl (one_of HT_.out (by kernel_rfl)) (by decide) (fun K hK => ?_)
 refine skip_ (w1 := ?_) (by rfl) rfl ?_ ?_
 rotate_left
 ·go_simp
  rfl
 refine hK.out _ _ ?_
 clear hK K
 refine done_ (done_of HT_.out (by kernel_rfl)) ?_
 clear hHeld hy0 hz0 hy1 hz1 hy2 hz2 hy3 hz3 hy4 hz4 hy5 hz5 hy6 hz6 hy7 hz7 hy8 hz8
 have hlt4 := blk_lt BS4.out
 have hpb : w.heap.size < s4 := Nat.lt_of_lt_of_le (blk_lt BPd.out) GE4.out
 have hgp : g < w.heap.size := blk_lt HF.out.blk
 have hgb : g < s4 := Nat.lt_of_lt_of_le (blk_lt HFd.out.blk) GE4.out
 have HX4 := Aside0.mk (HFd.out.shrink HB4.out s4 GE4.out hlt4)
 have HFr := Aside0.mk (Fr.of_below (ok := ok) (g := g) (below_step HBd.out HB4.out))
 have hge0 : w0.heap.size ≤ s4 := Nat.le_trans HF.out.below.size (Nat.le_of_lt hpb)
 have HF5 := Aside0.mk (Bld.far (p := ⟨s4, 8, none⟩) (Bld.far (p := ⟨s4, 7, none⟩) (Bld.far (p := ⟨s4, 6, none⟩) (Bld.far (p := ⟨s4, 5, none⟩) (Bld.far (p := ⟨s4, 4, none⟩) (Bld.far (p := ⟨s4, 3, none⟩) (Bld.far (p := ⟨s4, 2, none⟩) (Bld.far (p := ⟨s4, 1, none⟩) (Bld.far (p := ⟨s4, 0, none⟩) HX4.out (.string lb.f0) (fun e => e.2 rfl) (Nat.ne_of_lt hgb) hge0) (.string lb.f1) (fun e => e.2 rfl) (Nat.ne_of_lt hgb) hge0) (.string lb.f2) (fun e => e.2 rfl) (Nat.ne_of_lt hgb) hge0) (.bool true) (fun e => e.2 rfl) (Nat.ne_of_lt hgb) hge0) (.string ⟨#[]⟩) (fun e => e.2 rfl) (Nat.ne_of_lt hgb) hge0) (.string jl) (fun e => e.2 rfl) (Nat.ne_of_lt hgb) hge0) (.string ⟨#[]⟩) (fun e => e.2 rfl) (Nat.ne_of_lt hgb) hge0) (.string jr) (fun e => e.2 rfl) (Nat.ne_of_lt hgb) hge0) (.bool false) (fun e => e.2 rfl) (Nat.ne_of_lt hgb) hge0)
 have BS5 := Aside0.mk (fill9 BS4.out (.string lb.f0) (.string lb.f1) (.string lb.f2) (.bool true) (.string ⟨#[]⟩) (.string jl) (.string ⟨#[]⟩) (.string jr) (.bool false))
 have BP5 := Aside0.mk (blk_far (p := ⟨s4, 8, none⟩) (blk_far (p := ⟨s4, 7, none⟩) (blk_far (p := ⟨s4, 6, none⟩) (blk_far (p := ⟨s4, 5, none⟩) (blk_far (p := ⟨s4, 4, none⟩) (blk_far (p := ⟨s4, 3, none⟩) (blk_far (p := ⟨s4, 2, none⟩) (blk_far (p := ⟨s4, 1, none⟩) (blk_far (p := ⟨s4, 0, none⟩) BP4.out (Nat.ne_of_lt hpb) (.string lb.f0)) (Nat.ne_of_lt hpb) (.string lb.f1)) (Nat.ne_of_lt hpb) (.string lb.f2)) (Nat.ne_of_lt hpb) (.bool true)) (Nat.ne_of_lt hpb) (.string ⟨#[]⟩)) (Nat.ne_of_lt hpb) (.string jl)) (Nat.ne_of_lt hpb) (.string ⟨#[]⟩)) (Nat.ne_of_lt hpb) (.string jr)) (Nat.ne_of_lt hpb) (.bool false))
 have HR5 := Aside0.mk (Fr.set (p := ⟨s4, 8, none⟩) (Fr.set (p := ⟨s4, 7, none⟩) (Fr.set (p := ⟨s4, 6, none⟩) (Fr.set (p := ⟨s4, 5, none⟩) (Fr.set (p := ⟨s4, 4, none⟩) (Fr.set (p := ⟨s4, 3, none⟩) (Fr.set (p := ⟨s4, 2, none⟩) (Fr.set (p := ⟨s4, 1, none⟩) (Fr.set (p := ⟨s4, 0, none⟩) HFr.out (.string lb.f0) (Nat.le_of_lt hpb)) (.string lb.f1) (Nat.le_of_lt hpb)) (.string lb.f2) (Nat.le_of_lt hpb)) (.bool true) (Nat.le_of_lt hpb)) (.string ⟨#[]⟩) (Nat.le_of_lt hpb)) (.string jl) (Nat.le_of_lt hpb)) (.string ⟨#[]⟩) (Nat.le_of_lt hpb)) (.string jr) (Nat.le_of_lt hpb)) (.bool false) (Nat.le_of_lt hpb))
 clear HX4 HFr BS4 BP4 HF4 HB4
 generalize (((((((((w4.setCell ⟨s4, 0, none⟩ (.string lb.f0)).setCell ⟨s4, 1, none⟩ (.string lb.f1)).setCell ⟨s4, 2, none⟩ (.string lb.f2)).setCell ⟨s4, 3, none⟩ (.bool true)).setCell ⟨s4, 4, none⟩ (.string ⟨#[]⟩)).setCell ⟨s4, 5, none⟩ (.string jl)).setCell ⟨s4, 6, none⟩ (.string ⟨#[]⟩)).setCell ⟨s4, 7, none⟩ (.string jr)).setCell ⟨s4, 8, none⟩ (.bool false)) = w5 at HF5 BS5 BP5 HR5 ⊢
 have hlb5 : Below w.heap.size w5 w5 := Below.refl _ _
 have hst := (blk_cell HF5.out.blk 3).trans (show _ = some (Value.int .i64 style) from rfl)
 have hp1 := (blk_cell BP5.out 7).trans (show _ = some (Value.slice A1 b1.length c1) from rfl)
 go_wp2_with fail
 refine (lines_Join.calls k A1 c1 b1 jb w5 (H1.out _ HR5.out) hc1 HJ.out.1).mono ?_
 rintro e w6 ⟨rfl, hb⟩
 have HF6 := Aside0.mk (HF5.out.on hb)
 have BS6 := Aside0.mk (blk_below BS5.out hb)
 have BP6 := Aside0.mk (blk_below BP5.out hb)
 have HR6 := Aside0.mk (HR5.out.trans (Fr.of_below hb))
 clear hb HF5 BS5 BP5 HR5 hst hp1 hlb5
 have hy8 := (blk_cell BS6.out 8).trans (show _ = some (Value.bool false) from rfl)
 have hy6 := (blk_cell BS6.out 6).trans (show _ = some (Value.string ⟨#[]⟩) from rfl)
 have hz8 := blk_frozen BS6.out 8
 have hz6 := blk_frozen BS6.out 6
 have hp2 := (blk_cell BP6.out 8).trans (show _ = some (Value.slice A2 b2.length c2) from rfl)
 go_wp2_with fail
 clear hy8 hy6 hz8 hz6 hp2
 have HF7 := Aside0.mk (Bld.far (p := ⟨s4, 6, none⟩) (Bld.far (p := ⟨s4, 8, none⟩) HF6.out (.bool true) (fun e => e.2 rfl) (Nat.ne_of_lt hgb) hge0) (.string jb) (fun e => e.2 rfl) (Nat.ne_of_lt hgb) hge0)
 have BS7 : Aside0 (((w6.setCell ⟨s4, 8, none⟩ (.bool true)).setCell ⟨s4, 6, none⟩ (.string jb)).heap[s4]? = some (.cells #[.string lb.f0, .string lb.f1, .string lb.f2, .bool true, .string ⟨#[]⟩, .string jl, .string jb, .string jr, .bool true] 120 (0, 0))) := ⟨fill2 BS6.out (.bool true) (.string jb)⟩
 have BP7 := Aside0.mk (blk_far (p := ⟨s4, 6, none⟩) (blk_far (p := ⟨s4, 8, none⟩) BP6.out (Nat.ne_of_lt hpb) (.bool true)) (Nat.ne_of_lt hpb) (.string jb))
 have HR7 := Aside0.mk (Fr.set (p := ⟨s4, 6, none⟩) (Fr.set (p := ⟨s4, 8, none⟩) HR6.out (.bool true) (Nat.le_of_lt hpb)) (.string jb) (Nat.le_of_lt hpb))
 clear HF6 BS6 BP6 HR6
 generalize ((w6.setCell ⟨s4, 8, none⟩ (.bool true)).setCell ⟨s4, 6, none⟩ (.string jb)) = w7 at HF7 BS7 BP7 HR7 ⊢
 refine (build_builder_text.calls k g _ v lb style favour l A2 c2 t4 s1 w0 w7 HF7.out (HT4.out _ HR7.out) HL4.out (by have := HLL.out; omega) HJ.out.2.1).mono ?_
 rintro e w8 ⟨rfl, ⟨v8, hW⟩, hfr⟩
 have HF8 := Aside0.mk hW
 have BS8 := Aside0.mk ((hfr.2 _ (blk_lt BS7.out) (fun e => e.2 rfl) (Nat.ne_of_gt hgb)).trans BS7.out)
 have BP8 := Aside0.mk ((hfr.2 _ (blk_lt BP7.out) (fun e => e.1.2 rfl) (Nat.ne_of_gt hgp)).trans BP7.out)
 have HR8 := Aside0.mk (HR7.out.trans (hfr.mono (fun k e => e.1.1)))
 clear hW hfr HF7 BS7 BP7 HR7
 obtain ⟨A7, n7, c7, rfl⟩ : ∃ A n c, v8 = Value.slice A n c := by obtain ⟨A, c, h⟩ := Kd.R_slice HF8.out.own; exact ⟨A, _, c, h⟩
 have hv5 := (blk_cell HF8.out.blk 5).trans (show _ = some (Value.slice A7 n7 c7) from rfl)
 go_wp2_with fail
 refine start_ (n := 11) (S := fun w' => w'.cell? ⟨g, 5, none⟩ = some (.slice A7 n7 c7) ∧ w'.cell? ⟨s4, 0, none⟩ = some (.string lb.f0) ∧ w'.cell? ⟨s4, 1, none⟩ = some (.string lb.f1) ∧ w'.cell? ⟨s4, 2, none⟩ = some (.string lb.f2) ∧ w'.cell? ⟨s4, 3, none⟩ = some (.bool true) ∧ w'.cell? ⟨s4, 4, none⟩ = some (.string ⟨#[]⟩) ∧ w'.cell? ⟨s4, 5, none⟩ = some (.string jl) ∧ w'.cell? ⟨s4, 6, none⟩ = some (.string jb) ∧ w'.cell? ⟨s4, 7, none⟩ = some (.string jr) ∧ w'.cell? ⟨s4, 8, none⟩ = some (.bool true)) (ds := [10]) #[false, false, false, false, false, false, false, false, false, false, false] (by kernel_rfl) rfl rfl ⟨(blk_cell HF8.out.blk 5).trans (show _ = some _ from rfl), (blk_cell BS8.out 0).trans (show _ = some _ from rfl), (blk_cell BS8.out 1).trans (show _ = some _ from rfl), (blk_cell BS8.out 2).trans (show _ = some _ from rfl), (blk_cell BS8.out 3).trans (show _ = some _ from rfl), (blk_cell BS8.out 4).trans (show _ = some _ from rfl), (blk_cell BS8.out 5).trans (show _ = some _ from rfl), (blk_cell BS8.out 6).trans (show _ = some _ from rfl), (blk_cell BS8.out 7).trans (show _ = some _ from rfl), (blk_cell BS8.out 8).trans (show _ = some _ from rfl)⟩ (fun hHeld => ?_); refine with_tabW build_builder_conflict.tab9 build_builder_conflict.bits9 (fun HT_ HW_ => ?_)
 have HFa := Aside0.mk HF8.out.drew
 have BSa := Aside0.mk (blk_drew BS8.out)
 have BPa := Aside0.mk (blk_drew BP8.out)
 have HRa := Aside0.mk (HR8.out.trans (Fr.of_below (below_drew1 (Below.refl _ _))))
 clear hv5 HF8 BS8 BP8 HR8
 generalize w8.drew = wa at HFa BSa BPa HRa hHeld ⊢
 refine pure_ (i := 0) (N := some 63) (v := ?_) (a' := ?_) #[true, false, false, false, false, false, false, false, false, false, false] rfl rfl (any_of HT_.out (by kernel_rfl)) (fun _ _ _ h => h) (Or.inl ⟨by rfl, ?_⟩) ?_ ?_
 rotate_left
 ·intro w'
  go_simp
  with_reducible rfl
 rotate_left
 ·simp only [Act.put, List.setIfInBounds_toArray, List.set_cons_zero, List.set_cons_succ, i64_w, i32_w]
  rfl
 refine pure_ (i := 1) (N := some 64) (v := ?_) (a' := ?_) #[true, true, false, false, false, false, false, false, false, false, false] rfl rfl (any_of HT_.out (by kernel_rfl)) (fun _ _ _ h => h) (Or.inl ⟨by rfl, ?_⟩) ?_ ?_
 rotate_left
 ·intro w'
  go_simp
  with_reducible rfl
 rotate_left
 ·simp only [Act.put, List.setIfInBounds_toArray, List.set_cons_zero, List.set_cons_succ, i64_w, i32_w]
  rfl
 refine pure_ (i := 2) (N := some 65) (v := ?_) (a' := ?_) #[true, true, true, false, false, false, false, false, false, false, false] rfl rfl (any_of HT_.out (by kernel_rfl)) (fun _ _ _ h => h) (Or.inl ⟨by rfl, ?_⟩) ?_ ?_
 rotate_left
 ·intro w'
  go_simp
  with_reducible rfl
 rotate_left
 ·simp only [Act.put, List.setIfInBounds_toArray, List.set_cons_zero, List.set_cons_succ, i64_w, i32_w]
  rfl
 refine pure_ (i := 3) (N := some 66) (v := ?_) (a' := ?_) #[true, true, true, true, false, false, false, false, false, false, false] rfl rfl (any_of HT_.out (by kernel_rfl)) (fun _ _ _ h => h) (Or.inl ⟨by rfl, ?_⟩) ?_ ?_
 rotate_left
 ·intro w'
  go_simp
  with_reducible rfl
 rotate_left
 ·simp only [Act.put, List.setIfInBounds_toArray, List.set_cons_zero, List.set_cons_succ, i64_w, i32_w]
  rfl
 refine take_ (i := 4) (N := some 67) (v := ?_) (a' := ?_) #[true, true, true, true, true, false, false, false, false, false, false] rfl rfl (take_ofW HT_.out HW_.out (by kernel_rfl)) (fun _ _ _ h => h) (Or.inl ⟨by rfl, ?_⟩) hHeld ?_ ?_
 rotate_left
 ·rintro w' ⟨s0, s1_, s2, s3_, s4_, s5, s6, s7, s8, s9⟩
  go_simp
  with_reducible rfl
 rotate_left
 ·simp only [Act.put, List.setIfInBounds_toArray, List.set_cons_zero, List.set_cons_succ, i64_w, i32_w]
  rfl
 refine take_ (i := 5) (N := some 68) (v := ?_) (a' := ?_) #[true, true, true, true, true, true, false, false, false, false, false] rfl rfl (take_ofW HT_.out HW_.out (by kernel_rfl)) (fun _ _ _ h => h) (Or.inl ⟨by rfl, ?_⟩) hHeld ?_ ?_
 rotate_left
 ·rintro w' ⟨s0, s1_, s2, s3_, s4_, s5, s6, s7, s8, s9⟩
  go_simp
  with_reducible rfl
 rotate_left
 ·simp only [Act.put, List.setIfInBounds_toArray, List.set_cons_zero, List.set_cons_succ, i64_w, i32_w]
  rfl
 refine one_ (i := 6) (N := some 69) #[true, true, true, true, true, true, true, false, false, false, false] rfl rfl (one_of HT_.out (by kernel_rfl)) (by decide) (fun K hK => ?_)
 refine value_ (w1 := ?_) (v := ?_) (by rfl) rfl ?_ ?_
 rotate_left 2
 ·go_simp
  constructor
  ·rfl
  ·rfl
 refine hK.out _ _ ⟨(blk_cell (blk_alloc HFa.out.blk _) 5).trans (show _ = some _ from rfl), (blk_cell (blk_alloc BSa.out _) 0).trans (show _ = some _ from rfl), (blk_cell (blk_alloc BSa.out _) 1).trans (show _ = some _ from rfl), (blk_cell (blk_alloc BSa.out _) 2).trans (show _ = some _ from rfl), (blk_cell (blk_alloc BSa.out _) 3).trans (show _ = some _ from rfl), (blk_cell (blk_alloc BSa.out _) 4).trans (show _ = some _ from rfl), (blk_cell (blk_alloc BSa.out _) 5).trans (show _ = some _ from rfl), (blk_cell (blk_alloc BSa.out _) 6).trans (show _ = some _ from rfl), (blk_cell (blk_alloc BSa.out _) 7).trans (show _ = some _ from rfl), (blk_cell (blk_alloc BSa.out _) 8).trans (show _ = some _ from rfl)⟩ (fun hHeld => ?_)
 clear hK K
 refine norm_ (a' := ?_) ?_ ?_
 rotate_left
 ·show Act.put _ (some 69) _ = _
  simp only [Act.put, List.setIfInBounds_toArray, List.set_cons_zero, List.set_cons_succ, i64_w, i32_w]
  rfl
 refine one_ (i := 7) (N := some 70) #[true, true, true, true, true, true, true, true, false, false, false] rfl rfl (one_of HT_.out (by kernel_rfl)) (by decide) (fun K hK => ?_)
 refine Kd.R_append_step k120 (w0 := w0) w0.heap.size (by rfl) (.tmp 67) (.tmp 69) 88 120 (.agg #[(.string ⟨#[]⟩), (.string ⟨#[]⟩), (.string ⟨#[]⟩), (.bool false), (.string ⟨#[]⟩), (.string ⟨#[]⟩), (.string ⟨#[]⟩), (.string ⟨#[]⟩), (.bool false)]) 128 rfl Try.underlying88 info120 rfl (by decide) (by decide) (.slice A7 n7 c7) (l ++ [textPart s1]) (⟨lb, true, ⟨#[]⟩, jl, jb, jr, true⟩ : S120) [.string lb.f0, .string lb.f1, .string lb.f2, .bool true, .string ⟨#[]⟩, .string jl, .string jb, .string jr, .bool true] (fun k => (ok k ∧ k ≠ w.heap.size) ∧ k ≠ s4) (fun _ => False) rfl rfl (k120_mkM _ _ _ (⟨lb, true, ⟨#[]⟩, jl, jb, jr, true⟩ : S120)) (fun _ hk => hk.elim) ?aF HFa.out.own HFa.out.below HFa.out.below.size ?aL ?_
 (case aF => exact fun k hk => HFa.out.fresh k hk)
 (case aL => have := HLL.out; simp only [List.length_append, List.length_cons, List.length_nil]; omega)
 intro v4 w9 ho hb hg hat
 have HO4 := Aside0.mk ho
 have HB9 := Aside0.mk hb
 have HG4 := Aside0.mk hg
 have HK4 := Aside0.mk (blk_grown HFa.out.blk hg (Kd.R_away HFa.out.own (fun _ hk e => HFa.out.nog (e ▸ hk))))
 have BS9 := Aside0.mk (blk_grown BSa.out hg (Kd.R_away HFa.out.own (fun _ hk e => hk.2 e)))
 have BP9 := Aside0.mk (blk_grown BPa.out hg (Kd.R_away HFa.out.own (fun _ hk e => hk.1.2 e)))
 clear ho hb hg hat
 obtain ⟨A4, n4, c4, rfl⟩ : ∃ A n c, v4 = Value.slice A n c := (by obtain ⟨A, c, h⟩ := Kd.R_slice HO4.out; exact ⟨A, _, c, h⟩)
 have hh3 := (blk_cell HK4.out 5).trans (show _ = some (Value.slice A7 n7 c7) from rfl)
 have hh4 := blk_frozen HK4.out 5
 refine hK.out _ _ ⟨(blk_cell HK4.out 5).trans (show _ = some _ from rfl), (blk_cell BS9.out 0).trans (show _ = some _ from rfl), (blk_cell BS9.out 1).trans (show _ = some _ from rfl), (blk_cell BS9.out 2).trans (show _ = some _ from rfl), (blk_cell BS9.out 3).trans (show _ = some _ from rfl), (blk_cell BS9.out 4).trans (show _ = some _ from rfl), (blk_cell BS9.out 5).trans (show _ = some _ from rfl), (blk_cell BS9.out 6).trans (show _ = some _ from rfl), (blk_cell BS9.out 7).trans (show _ = some _ from rfl), (blk_cell BS9.out 8).trans (show _ = some _ from rfl)⟩ (fun hHeld => ?_)
 clear hK K
 refine norm_ (a' := ?_) ?_ ?_
 rotate_left
 ·show Act.put _ (some 70) _ = _
  simp only [Act.put, List.setIfInBounds_toArray, List.set_cons_zero, List.set_cons_succ, i64_w, i32_w]
  rfl
 refine pure_ (i := 8) (N := some 71) (v := ?_) (a' := ?_) #[true, true, true, true, true, true, true, true, true, false, false] rfl rfl (any_of HT_.out (by kernel_rfl)) (fun _ _ _ h => h) (Or.inl ⟨by rfl, ?_⟩) ?_ ?_
 rotate_left
 ·intro w'
  go_simp
  with_reducible rfl
 rotate_left
 ·simp only [Act.put, List.setIfInBounds_toArray, List.set_cons_zero, List.set_cons_succ, i64_w, i32_w]
  rfl
 refine pure_ (i := 9) (N := some 72) (v := ?_) (a' := ?_) #[true, true, true, true, true, true, true, true, true, true, false] rfl rfl (any_of HT_.out (by kernel_rfl)) (fun _ _ _ h => h) (Or.inl ⟨by rfl, ?_⟩) ?_ ?_
 rotate_left
 ·intro w'
  go_simp
  with_reducible rfl
 rotate_left
 ·simp only [Act.put, List.setIfInBounds_toArray, List.set_cons_zero, List.set_cons_succ, i64_w, i32_w]
  rfl
 refine last_ (i := 10) (N := none) #[true, true, true, true, true, true, true, true, true, true, true] rfl rfl (one_of HT_.out (by kernel_rfl)) (by decide) (fun K hK => ?_)
 refine skip_ (w1 := ?_) (by rfl) rfl ?_ ?_
 rotate_left
 ·go_simp
  rfl
 refine hK.out _ _ ?_
 clear hK K hh3 hh4 hHeld
 refine done_ (done_of HT_.out (by kernel_rfl)) ?_
 have HFb : Aside0 (Bld w0 (w9.setCell ⟨g, 5, none⟩ (.slice A4 n4 c4)) g (fun k => (ok k ∧ k ≠ w.heap.size) ∧ k ≠ s4) (.slice A4 n4 c4) lb style favour ((l ++ [textPart s1]) ++ [(⟨lb, true, ⟨#[]⟩, jl, jb, jr, true⟩ : S120)])) := ⟨⟨HB9.out.setCell HFa.out.ge _, HFa.out.ge, blk_put HK4.out 5 _ rfl, Kd.R_far HO4.out (p := ⟨g, 5, none⟩) (fun k hk e => HFa.out.nog (by have e2 : k = g := e; rw [← e2]; exact hk)) _, HFa.out.nog, fun k hk => HFa.out.fresh k (by rw [size_set136] at hk; exact Nat.le_trans HG4.out.size hk)⟩⟩
 have BPb := Aside0.mk (blk_far (p := ⟨g, 5, none⟩) BP9.out (Nat.ne_of_gt hgp) (.slice A4 n4 c4))
 have HRb : Aside0 (Fr ok g w (w9.setCell ⟨g, 5, none⟩ (.slice A4 n4 c4))) := ⟨HRa.out.trans ⟨by rw [size_set136]; exact HG4.out.size, fun k hk hnk hkg => by rw [Below.heap_setCell w9 ⟨g, 5, none⟩ _ k hkg, HG4.out.block k hk (Kd.R_away HFa.out.own (fun j hj e => hnk (e ▸ hj.1.1)))]⟩⟩
 clear HFa BSa BPa HRa HO4 HB9 HG4 HK4 BS9 BP9 HT_ HW_
 generalize w9.setCell ⟨g, 5, none⟩ (.slice A4 n4 c4) = wb at HFb BPb HRb ⊢
 have hp2 := (blk_cell BPb.out 8).trans (show _ = some (Value.slice A2 b2.length c2) from rfl)
 go_wp2_with fail
 refine (build_builder_text.calls k g _ _ lb style favour _ B5 d5 t5 s3 w0 wb HFb.out (HT5.out _ HRb.out) HL5.out (by have := HLL.out; simp only [List.length_append, List.length_cons, List.length_nil]; omega) HJ.out.2.2).mono ?_
 rintro e wc ⟨rfl, ⟨vc, hW⟩, hfr⟩
 clear hp2
 try go_wp2
 go_end0
 have hun : hunk lb style jb jl jr = ⟨lb, true, ⟨#[]⟩, jl, jb, jr, true⟩ := if_neg (by omega)
 rw [hun]
 refine ⟨rfl, ⟨vc, ?_⟩, HRb.out.trans (hfr.mono (fun k e => e.1.1))⟩
 have hW2 := hW.widen (ok := ok) (fun k e => e.1.1) HF.out.nog
 simpa only [List.append_assoc, List.cons_append, List.nil_append] using hW2
end Go.Proofs.Ytadafplbgophfaa.PA
end
section
namespace Go.Proofs.Ytadafplbgophfaa.PA
set_option linter.unusedSimpArgs false
set_option linter.unusedVariables false
open Go.RowKit Go.Proofs.YtadafplbgophfaaW.PrintWords Go.Proofs.YtadafplbgophfaaW.PrintLast Go.Proofs.YtadafplbgophfaaW.PrintMore
theorem F_on {α : Type} {d : Kd α} {w w1 : World} {ok : Nat → Prop} {A : Option Addr} {n : Nat} {xs : List α} (h : Kd.F d w ok A n xs) (hb : Below w.heap.size w w1) : Kd.F d w1 ok A n xs := Kd.F_mono (Kd.F_old h hb) (fun _ hk => hk.1)
set_option maxHeartbeats 8000000 in
set_option maxRecDepth 100000 in
theorem build_builder_piece.calls (k : Nat) (g : Nat) (ok : Nat → Prop) (v : Value) (lb : S116) (style favour : Int) (l : List S120) (st : Bool) (i0 i1 i2 i3 i4 i5 : Int) (cls : Int)
    (A1 : Option Addr) (c1 : Nat) (b1 : List ByteArray) (A2 : Option Addr) (c2 : Nat) (b2 : List ByteArray) (A3 : Option Addr) (c3 : Nat) (b3 : List ByteArray) (w0 w : World) (hF : Bld w0 w g ok v lb style favour l)
    (hr1 : Kd.F Kd.string w (fun k => ¬ ok k ∧ k ≠ g) A1 b1.length b1) (hc1 : b1.length ≤ c1) (hr2 : Kd.F Kd.string w (fun k => ¬ ok k ∧ k ≠ g) A2 b2.length b2) (hc2 : b2.length ≤ c2) (hr3 : Kd.F Kd.string w (fun k => ¬ ok k ∧ k ≠ g) A3 b3.length b3) (hc3 : b3.length ≤ c3)
    (n m : Int) (h2 : style = 2) (h4 : cls = 4) (h0 : favour = 0) (hn : build_Hoist.f k b2 b3 = some (n, m)) (hn0 : 0 ≤ n) (hm0 : 0 ≤ m) (hnm : n + m ≤ b2.length) (hnm3 : n + m ≤ b3.length) (hl : l.length ≤ 900000000)
    (jb jl jr s1 s3 : ByteArray) (hjb : lines_Join.f k b1 = some jb) (hjl : lines_Join.f k ((b2.take ((b2.length : Int) - m).toNat).drop n.toNat) = some jl) (hjr : lines_Join.f k ((b3.take ((b3.length : Int) - m).toNat).drop n.toNat) = some jr)
    (hs1 : lines_Join.f k (b2.take n.toNat) = some s1) (hs3 : lines_Join.f k (b2.drop ((b2.length : Int) - m).toNat) = some s3) :
    Calls Try.prog 119 #[.pointer (some ⟨g, 0, none⟩), .agg #[.bool st, .int .i64 i0, .int .i64 i1, .int .i64 i2, .int .i64 i3, .int .i64 i4, .int .i64 i5, .slice A1 b1.length c1, .slice A2 b2.length c2, .slice A3 b3.length c3, .int .i64 cls]] w fun e w' => e = .returned (.tuple #[]) ∧ (∃ v', Bld w0 w' g ok v' lb style favour (l ++ [textPart s1, hunk lb style jb jl jr, textPart s3])) ∧ Fr ok g w w' := by
  have HF := Aside0.mk hF
  have H1 := Aside0.mk hr1
  have H2 := Aside0.mk hr2
  have H3 := Aside0.mk hr3
  have HALL := Aside0.mk (And.intro hjb (And.intro hjl (And.intro hjr (And.intro hs1 hs3))))
  have HNM := Aside0.mk (And.intro hn (And.intro hn0 (And.intro hm0 (And.intro hnm (And.intro hnm3 hl)))))
  have HC := Aside0.mk (And.intro hc1 (And.intro hc2 hc3))
  clear hF hr1 hr2 hr3 hjb hjl hjr hs1 hs3 hn hn0 hm0 hnm hnm3 hl hc1 hc2 hc3
  have hu181 := Try.underlying181
  have hu184 := Try.underlying184
  subst h4
  subst h0
  go_enter Try.func119, Try.ntmps119
  go_wp2_with (first | ((with_reducible refine gate_dst (N := 3) rfl ?_); refine box_event ?hg (N := 3) ?hd (cs := #[.bool st, .int .i64 i0, .int .i64 i1, .int .i64 i2, .int .i64 i3, .int .i64 i4, .int .i64 i5, .slice A1 b1.length c1, .slice A2 b2.length c2, .slice A3 b3.length c3, .int .i64 4]) (t := 184) ?hr ?_; (case hd => rfl); (case hg => rfl); (case hr => first | (go_simp; done) | (go_simp; rfl)); intro g0 hg w1 hbox hb; subst hg; have HF1 := Aside0.mk (HF.out.on hb); have hfa := (blk_cell HF1.out.blk 4).trans (show _ = some (Value.int .i64 0) from rfl); have q0 := (blk_cell hbox 0).trans (show _ = some (Value.bool st) from rfl); have q1 := (blk_cell hbox 1).trans (show _ = some (Value.int .i64 i0) from rfl); have q2 := (blk_cell hbox 2).trans (show _ = some (Value.int .i64 i1) from rfl); have q3 := (blk_cell hbox 3).trans (show _ = some (Value.int .i64 i2) from rfl); have q4 := (blk_cell hbox 4).trans (show _ = some (Value.int .i64 i3) from rfl); have q5 := (blk_cell hbox 5).trans (show _ = some (Value.int .i64 i4) from rfl); have q6 := (blk_cell hbox 6).trans (show _ = some (Value.int .i64 i5) from rfl); have q7 := (blk_cell hbox 7).trans (show _ = some (Value.slice A1 b1.length c1) from rfl); have q8 := (blk_cell hbox 8).trans (show _ = some (Value.slice A2 b2.length c2) from rfl); have q9 := (blk_cell hbox 9).trans (show _ = some (Value.slice A3 b3.length c3) from rfl); have q10 := (blk_cell hbox 10).trans (show _ = some (Value.int .i64 4) from rfl); have HB1 := Aside0.mk hb; clear hbox hb))
  obtain ⟨a1, a2, a3, a4, a5, a6⟩ := HNM.out
  obtain ⟨b1', b2', b3', b4', b5'⟩ := HALL.out
  refine (build_builder_conflict.calls k g ok v lb style 0 l st i0 i1 i2 i3 i4 i5 4 A1 c1 b1 A2 c2 b2 A3 c3 b3 w0 w1 HF1.out (F_on H1.out HB1.out) HC.out.1 (F_on H2.out HB1.out) HC.out.2.1 (F_on H3.out HB1.out) HC.out.2.2 n m h2 a1 a2 a3 a4 a5 a6 jb jl jr s1 s3 b1' b2' b3' b4' b5').mono ?_
  rintro e w2 ⟨rfl, hE, hfr⟩
  have HE := Aside0.mk hE
  have HR := Aside0.mk hfr
  clear hE hfr
  try go_wp2
  go_end0
  exact ⟨rfl, HE.out, (Fr.of_below HB1.out).trans HR.out⟩
end Go.Proofs.Ytadafplbgophfaa.PA
end
section
namespace Go.Proofs.Ytadafplbgophfaa.PA
open Go.RowKit Go.Proofs.YtadafplbgophfaaW.PrintWords Go.Proofs.YtadafplbgophfaaW.PrintLast Go.Proofs.YtadafplbgophfaaW.PrintMore
attribute [local go_sem] max2_int min2_int max_two min_two max_three min_three max_four min_four   -- for this text's walks alone
set_option linter.unusedVariables false
set_option linter.unusedSimpArgs false
def doc_Labels_Plain.f (k : Nat) (a0_0 : ByteArray) (a0_1 : ByteArray) (a0_2 : ByteArray) : Option (Bool) := if a0_0.size + a0_1.size ≤ 9223372036854775807 then (if (a0_0 ++ a0_1).size + a0_2.size ≤ 9223372036854775807 then ((strings_Contains.f k ((a0_0 ++ a0_1) ++ a0_2) (⟨#[10]⟩ : ByteArray)).bind fun t102 => (some (!t102))) else (none)) else (none)
set_option maxHeartbeats 8000000 in
set_option maxRecDepth 100000 in
theorem doc_Labels_Plain.calls (k : Nat) (a0_0 : ByteArray) (a0_1 : ByteArray) (a0_2 : ByteArray) (r : Bool) (w : World) (h : doc_Labels_Plain.f k a0_0 a0_1 a0_2 = some r) :
  Calls Try.prog 116 #[.agg #[.string a0_0, .string a0_1, .string a0_2]] w fun e w' => e = .returned (.bool r) ∧ Below w.heap.size w w' := by
 have hu116 := Try.underlying116
 have HB := Aside0.mk (Below.refl w.heap.size w)
 have H : (if a0_0.size + a0_1.size ≤ 9223372036854775807 then (if (a0_0 ++ a0_1).size + a0_2.size ≤ 9223372036854775807 then ((strings_Contains.f k ((a0_0 ++ a0_1) ++ a0_2) (⟨#[10]⟩ : ByteArray)).bind fun t102 => (some (!t102))) else (none)) else (none)) = some r := h
 clear h
 by_cases c2 : a0_0.size + a0_1.size ≤ 9223372036854775807
 ·rw [if_pos c2] at H
  have c2b0 := eq_true c2
  have c2b1 : decide (a0_0.size + a0_1.size ≤ 9223372036854775807) = true := decide_eq_true c2
  try have c2b2 : (9223372036854775807 < a0_0.size + a0_1.size) = False := eq_false (Nat.not_lt.2 c2)
  by_cases c3 : (a0_0 ++ a0_1).size + a0_2.size ≤ 9223372036854775807
  ·rw [if_pos c3] at H
   have c3b0 := eq_true c3
   have c3b1 : decide ((a0_0 ++ a0_1).size + a0_2.size ≤ 9223372036854775807) = true := decide_eq_true c3
   try have c3b2 : (9223372036854775807 < (a0_0 ++ a0_1).size + a0_2.size) = False := eq_false (Nat.not_lt.2 c3)
   replace H := Option.bind_eq_some_iff.mp H
   obtain ⟨t102, A40, H⟩ := H
   replace H : (some (!t102)) = some r := H
   have A4 := Aside0.mk A40
   clear A40
   obtain rfl := Option.some.inj H
   go_enter Try.func116, Try.ntmps116
   go_wp2_with (first | ((with_reducible refine gate_dst (N := 1) rfl ?_); refine box_event ?hg (N := 1) ?hd (cs := #[.string a0_0, .string a0_1, .string a0_2]) (t := 116) ?hr ?_; (case hd => rfl); (case hg => rfl); (case hr => first | (go_simp; done) | (go_simp; rfl)); intro gb101 hg w5 hbox hb; have n0_ := Aside0.mk (below_step (by repeat (first | (with_reducible first | exact HB.out | apply below_alloc | apply pw_below_drewN | apply below_drew1) | exact HB.out)) hb); have n1_ := Aside0.mk (hbox); have n2_ := Aside0.mk ((by rw [hg]; exact (below_size (by repeat (first | (with_reducible first | exact HB.out | apply below_alloc | apply pw_below_drewN | apply below_drew1) | exact HB.out))) : w.heap.size ≤ gb101)); have n3_ := Aside0.mk ((by rw [hg]; exact (below_size (by repeat (first | (with_reducible first | exact HB.out | apply below_alloc | apply pw_below_drewN | apply below_drew1) | exact HB.out))) : w.heap.size ≤ gb101)); clear HB; have HB := n0_; have BK101 := n1_; have GW101 := n2_; have GE101 := n3_; clear n0_ n1_ n2_ n3_; clear hb hbox hg; have hcz6_0 : w5.cell? ⟨gb101, 0, none⟩ = some (.string a0_0) := (blk_cell BK101.out 0).trans rfl; have hcz6_1 : w5.cell? ⟨gb101, 1, none⟩ = some (.string a0_1) := (blk_cell BK101.out 1).trans rfl; have hcz6_2 : w5.cell? ⟨gb101, 2, none⟩ = some (.string a0_2) := (blk_cell BK101.out 2).trans rfl; have hfz6_0 := blk_frozen BK101.out 0; have hfz6_1 := blk_frozen BK101.out 1; have hfz6_2 := blk_frozen BK101.out 2) | ((with_reducible refine gate_callee (f := 135) rfl ?_); refine goesL_ (some 11) rfl rfl Try.func135 (by kernel_rfl) rfl #[.string ((a0_0 ++ a0_1) ++ a0_2), .string (⟨#[10]⟩ : ByteArray)] rfl (by (try simp only [List.map_toArray, List.map_cons, List.map_nil]); first | done | rfl | (simp only [List.length_drop, List.length_take]; rfl)) ?_; (with_reducible refine (strings_Contains.calls k ((a0_0 ++ a0_1) ++ a0_2) (⟨#[10]⟩ : ByteArray) t102 _ A4.out).mono ?_); rintro e w7 ⟨rfl, hb⟩; refine ⟨_, rfl, ?_⟩; have n0_ := Aside0.mk (blk_below (g := gb101) (o := .cells #[.string a0_0, .string a0_1, .string a0_2] 116 (0, 0)) (by (with_reducible repeat (first | refine blk_drewN ?_ _ | refine blk_drew ?_ | refine blk_alloc ?_ _)); exact BK101.out) hb); have n1_ := Aside0.mk (below_step (by repeat (first | (with_reducible first | exact HB.out | apply below_alloc | apply pw_below_drewN | apply below_drew1 | refine below_set ?_ GE101.out) | exact HB.out)) hb); clear BK101; clear HB; have BK101 := n0_; have HB := n1_; clear n0_ n1_; (try clear hb); (try clear hb2); (try clear hk); (try clear hi)))
   go_ret
   exact ⟨by first | rfl | (simp [errW_none, errW_some] <;> rfl) | (simp [*, errW_none, errW_some] <;> rfl), by repeat (first | (with_reducible first | exact HB.out | apply below_alloc | apply pw_below_drewN | apply below_drew1 | refine below_set ?_ GE101.out) | exact HB.out)⟩
  ·rw [if_neg c3] at H
   exact absurd H (by simp)
 ·rw [if_neg c2] at H
  exact absurd H (by simp)
end Go.Proofs.Ytadafplbgophfaa.PA
end
section
namespace Go.Proofs.Ytadafplbgophfaa.PA
set_option linter.unusedSimpArgs false
set_option linter.unusedVariables false
open Go.RowKit Go.Proofs.YtadafplbgophfaaW.PrintWords Go.Proofs.YtadafplbgophfaaW.PrintLast Go.Proofs.YtadafplbgophfaaW.PrintMore
theorem Bld.cut {w0 w w1 w7 : World} {g : Nat} {ok : Nat → Prop} {v v7 v8 v9 : Value} {lb : S116} {st fa : Int} {l : List S120} {o7 o8 o9 : Nat → Prop} {b1 b2 b3 : List ByteArray} (h : Bld w0 w g ok v lb st fa l) (hb : Below w.heap.size w w7) (hs : w.heap.size ≤ w1.heap.size)
    (h7 : Kd.R Kd.string 9 w7 w1.heap.size o7 v7 b1) (h8 : Kd.R Kd.string 9 w7 w1.heap.size o8 v8 b2) (h9 : Kd.R Kd.string 9 w7 w1.heap.size o9 v9 b3) :
    Bld w0 w7 g (fun k => ok k ∧ ¬ (some k = v7.ownBlock ∨ some k = v8.ownBlock ∨ some k = v9.ownBlock)) v lb st fa l := by
  refine ⟨below_step h.below hb, h.ge, (hb.block g (blk_lt h.blk)).trans h.blk, ?_, fun e => h.nog e.1, fun k hk => ⟨h.fresh k (Nat.le_trans hb.size hk), ?_⟩⟩
  · refine Kd.R_mono (Kd.R_below (Kd.R_bound h.own) hb) (fun k hk => ⟨hk.1, ?_⟩)
    have hlt := hk.2.2.1
    rintro (e | e | e)
    · have := Kd.R_base h7 k e.symm; omega
    · have := Kd.R_base h8 k e.symm; omega
    · have := Kd.R_base h9 k e.symm; omega
  · rintro (e | e | e)
    · have := Kd.R_lt h7 k e.symm; omega
    · have := Kd.R_lt h8 k e.symm; omega
    · have := Kd.R_lt h9 k e.symm; omega
theorem F_cut {w7 : World} {base g : Nat} {ok o7 Q : Nat → Prop} {A : Option Addr} {c : Nat} {b : List ByteArray} (hg : g < base) (h : Kd.R Kd.string 9 w7 base o7 (.slice A b.length c) b) (hQ : ∀ k, some k = (Value.slice A b.length c).ownBlock → Q k) :
    Kd.F Kd.string w7 (fun k => ¬ (ok k ∧ ¬ Q k) ∧ k ≠ g) A b.length b :=
  Kd.F_mono (Kd.R_F (Kd.R_tight rfl h)) (fun k hk => ⟨fun e => e.2 (hQ k hk), fun e => by have := Kd.R_base h k hk.symm; omega⟩)
def pieceDoc (k : Nat) (a b c : ByteArray) (b1 b2 b3 : List ByteArray) (cls : Int) : Option (List S120 × Int) :=
  if cls = 4 then (build_Hoist.f k b2 b3).bind fun nm =>
    if 0 ≤ nm.1 ∧ 0 ≤ nm.2 ∧ nm.1 + nm.2 ≤ b2.length ∧ nm.1 + nm.2 ≤ b3.length then
      (lines_Join.f k b1).bind fun jb => (lines_Join.f k ((b2.take ((b2.length : Int) - nm.2).toNat).drop nm.1.toNat)).bind fun jl => (lines_Join.f k ((b3.take ((b3.length : Int) - nm.2).toNat).drop nm.1.toNat)).bind fun jr =>
      (lines_Join.f k (b2.take nm.1.toNat)).bind fun s1 => (lines_Join.f k (b2.drop ((b2.length : Int) - nm.2).toNat)).bind fun s3 =>
      (doc_Of.f k ([] ++ [textPart s1, hunk ⟨a, b, c⟩ 2 jb jl jr, textPart s3])).bind fun d => some (d, 0)
    else none
  else none
theorem pieceDoc.mono (a b c : ByteArray) (b1 b2 b3 : List ByteArray) (cls : Int) (k : Nat) : LeO (pieceDoc k a b c b1 b2 b3 cls) (pieceDoc (k + 1) a b c b1 b2 b3 cls) := by
  unfold pieceDoc
  repeat' first
    | exact build_Hoist.mono _ _ _
    | exact lines_Join.mono _ _
    | exact doc_Of.mono _ _
    | exact LeO.none _
    | exact LeO.refl _
    | refine LeO.ite ?_ ?_
    | refine LeO.bind ?_ (fun _ => ?_)
def build_Doc.f (k : Nat) (l0 l1 l2 : List ByteArray) (cs : List S78) (style : Int) (a b c : ByteArray) (favour : Int) : Option (List S120 × Int) :=
  if style = 2 ∧ favour = 0 ∧ cs.length = 1 then
    (doc_Labels_Plain.f k a b c).bind fun p => if p = true then
      (build_Files_cut.f k l0 l1 l2 (rd_T78 cs 0).f0 (rd_T78 cs 0).f1.f0 (rd_T78 cs 0).f1.f1 (rd_T78 cs 0).f2.f0 (rd_T78 cs 0).f2.f1 (rd_T78 cs 0).f3.f0 (rd_T78 cs 0).f3.f1).bind fun t =>
      pieceDoc k a b c t.2.2.2.2.2.2.2.1 t.2.2.2.2.2.2.2.2.1 t.2.2.2.2.2.2.2.2.2.1 t.2.2.2.2.2.2.2.2.2.2
    else none
  else none
set_option maxHeartbeats 8000000 in
set_option maxRecDepth 100000 in
theorem build_Doc.calls (k : Nat) (A0_0 : Option Addr) (c0_0 : Nat) (l0_0 : List ByteArray) (A0_1 : Option Addr) (c0_1 : Nat) (l0_1 : List ByteArray) (A0_2 : Option Addr) (c0_2 : Nat) (l0_2 : List ByteArray) (A1 : Option Addr) (c1 : Nat) (l1 : List (S78)) (a2 : Int) (a3_0 a3_1 a3_2 : ByteArray) (a4 : Int) (r1 : List S120) (r2 : Int) (w : World) (hr0_0 : Kd.C Kd.string w A0_0 l0_0.length l0_0) (hc0_0 : l0_0.length ≤ c0_0) (hr0_1 : Kd.C Kd.string w A0_1 l0_1.length l0_1) (hc0_1 : l0_1.length ≤ c0_1) (hr0_2 : Kd.C Kd.string w A0_2 l0_2.length l0_2) (hc0_2 : l0_2.length ≤ c0_2) (hr1 : Kd.C k78 w A1 l1.length l1) (hc1 : l1.length ≤ c1) (h : build_Doc.f k l0_0 l0_1 l0_2 l1 a2 a3_0 a3_1 a3_2 a4 = some (r1, r2)) :
    Calls Try.prog 73 #[.agg #[.slice A0_0 l0_0.length c0_0, .slice A0_1 l0_1.length c0_1, .slice A0_2 l0_2.length c0_2], .slice A1 l1.length c1, .int .i64 a2, .agg #[.string a3_0, .string a3_1, .string a3_2], .int .i64 a4] w fun e w' => ∃ v0_ : Value, e = .returned (.tuple #[v0_, .int .i64 r2]) ∧ Kd.R k120 120 w' w.heap.size (fun _ => True) v0_ r1 ∧ Below w.heap.size w w' := by
  unfold build_Doc.f at h
  split at h
  case isFalse => cases h
  rename_i hG
  obtain ⟨rfl, rfl, hlen⟩ := hG
  replace h := Option.bind_eq_some_iff.1 h
  obtain ⟨p, hp, h⟩ := h
  split at h
  case isFalse => cases h
  rename_i hpt
  subst hpt
  replace h := Option.bind_eq_some_iff.1 h
  obtain ⟨⟨t0, t1, t2, t3, t4, t5, t6, b1, b2, b3, cls⟩, ht, h⟩ := h
  simp only at h
  unfold pieceDoc at h
  split at h
  case isFalse => cases h
  rename_i hcls
  subst hcls
  replace h := Option.bind_eq_some_iff.1 h
  obtain ⟨⟨n, m⟩, hnm, h⟩ := h
  simp only at h
  split at h
  case isFalse => cases h
  rename_i hN
  replace h := Option.bind_eq_some_iff.1 h
  obtain ⟨jb, hjb, h⟩ := h
  replace h := Option.bind_eq_some_iff.1 h
  obtain ⟨jl, hjl, h⟩ := h
  replace h := Option.bind_eq_some_iff.1 h
  obtain ⟨jr, hjr, h⟩ := h
  replace h := Option.bind_eq_some_iff.1 h
  obtain ⟨s1, hs1, h⟩ := h
  replace h := Option.bind_eq_some_iff.1 h
  obtain ⟨s3, hs3, h⟩ := h
  replace h := Option.bind_eq_some_iff.1 h
  obtain ⟨d, hd, h⟩ := h
  simp only [Option.some.injEq, Prod.mk.injEq] at h
  obtain ⟨rfl, rfl⟩ := h
  generalize hps : ([] ++ [textPart s1, hunk ⟨a3_0, a3_1, a3_2⟩ 2 jb jl jr, textPart s3]) = ps at hd
  have HPS := Aside0.mk hps
  have HD := Aside0.mk hd
  have HPL := Aside0.mk hp
  have HCUT := Aside0.mk ht
  have HNM := Aside0.mk (And.intro hnm hN)
  have HALL := Aside0.mk (And.intro hjb (And.intro hjl (And.intro hjr (And.intro hs1 hs3))))
  have HLEN := Aside0.mk hlen
  have lt0 : decide ((0 : Int) < (l1.length : Int)) = true := decide_eq_true (by omega)
  have lt1 : decide ((1 : Int) < (l1.length : Int)) = false := decide_eq_false (by omega)
  have lt0n : decide (0 < l1.length) = true := decide_eq_true (by omega)
  have lt1n : decide (1 < l1.length) = false := decide_eq_false (by omega)
  have LT0 : Aside0 ((0 : Int) < (l1.length : Int)) := ⟨by omega⟩
  have HA0 := Aside0.mk (And.intro hr0_0 hc0_0)
  have HA1 := Aside0.mk (And.intro hr0_1 hc0_1)
  have HA2 := Aside0.mk (And.intro hr0_2 hc0_2)
  have HR1 := Aside0.mk (And.intro hr1 hc1)
  clear hr0_0 hc0_0 hr0_1 hc0_1 hr0_2 hc0_2 hr1 hc1 hps hd hp ht hnm hN hjb hjl hjr hs1 hs3 hlen
  have hu112 := Try.underlying112
  have hu116 := Try.underlying116
  have hu181 := Try.underlying181
  have hu78 := Try.underlying78
  go_enter Try.func73, Try.ntmps73
  go_wp2_with (first | ((with_reducible refine gate_dst (N := 5) rfl ?_); refine box_event ?hg (N := 5) ?hd (cs := #[.slice A0_0 l0_0.length c0_0, .slice A0_1 l0_1.length c0_1, .slice A0_2 l0_2.length c0_2]) (t := 112) ?hr ?_; (case hd => rfl); (case hg => rfl); (case hr => first | (go_simp; done) | (go_simp; rfl)); intro f5 hg w1 hbox hb; have BF1 := Aside0.mk hbox; have HB1 := Aside0.mk hb; have GE5 : Aside0 (w.heap.size ≤ f5) := ⟨Nat.le_of_eq hg.symm⟩; clear hg hbox hb) | ((with_reducible refine gate_dst (N := 8) rfl ?_); refine box_event ?hg (N := 8) ?hd (cs := #[.string a3_0, .string a3_1, .string a3_2]) (t := 116) ?hr ?_; (case hd => rfl); (case hg => rfl); (case hr => first | (go_simp; done) | (go_simp; rfl)); intro f8 hg w2 hbox hb; have BL2 := Aside0.mk hbox; have BF2 := Aside0.mk (blk_below BF1.out hb); have HB2 := Aside0.mk (below_step HB1.out hb); have z0 := (blk_cell hbox 0).trans (show _ = some (Value.string a3_0) from rfl); have z1 := (blk_cell hbox 1).trans (show _ = some (Value.string a3_1) from rfl); have z2 := (blk_cell hbox 2).trans (show _ = some (Value.string a3_2) from rfl); clear hg hbox hb BF1 HB1))
  refine (doc_Labels_Plain.calls k a3_0 a3_1 a3_2 true w2 HPL.out).mono ?_
  rintro e w3 ⟨rfl, hb⟩
  have BF3 := Aside0.mk (blk_below BF2.out hb)
  have BL3 := Aside0.mk (blk_below BL2.out hb)
  have HB3 := Aside0.mk (below_step HB2.out hb)
  clear z0 z1 z2 hb BF2 BL2 HB2
  have z0 := (blk_cell BL3.out 0).trans (show _ = some (Value.string a3_0) from rfl)
  have z1 := (blk_cell BL3.out 1).trans (show _ = some (Value.string a3_1) from rfl)
  have z2 := (blk_cell BL3.out 2).trans (show _ = some (Value.string a3_2) from rfl)
  go_wp2_with (first | ((with_reducible refine gate_dst (N := 42) rfl ?_); refine box_event ?hg (N := 42) ?hd (cs := #[.string a3_0, .string a3_1, .string a3_2, .int .i64 2, .int .i64 0, .slice none 0 0]) (t := 181) ?hr ?_; (case hd => rfl); (case hg => rfl); (case hr => first | (go_simp; done) | (go_simp; rfl)); intro g hg w4 hbox hb; have BG4 := Aside0.mk hbox; have BF4 := Aside0.mk (blk_below BF3.out hb); have HB4 := Aside0.mk (below_step HB3.out hb); have GEg : Aside0 (w.heap.size ≤ g) := ⟨by rw [hg]; exact below_size HB3.out⟩; have NFG : Aside0 (f5 ≠ g) := ⟨by rw [hg]; exact Nat.ne_of_lt (blk_lt BF3.out)⟩; clear hg hbox hb BF3 BL3 HB3 z0 z1 z2))
  have HBLD : Aside0 (Bld w w4 g (fun k => w4.heap.size ≤ k) (.slice none 0 0) ⟨a3_0, a3_1, a3_2⟩ 2 0 []) := ⟨⟨HB4.out, GEg.out, BG4.out, Kd.R_nil _ _ _ _ _, Nat.not_le.2 (blk_lt BG4.out), fun _ hk => hk⟩⟩
  clear BG4
  go_loopg [45] 1 (fun kq v45 W => ∃ (v : Value) (l : List S120) (i : Int), v45 = .int .i64 i ∧ Aside0 ((kq = 1 ∧ i = 0 ∧ l = []) ∨ (kq = 0 ∧ i = 1 ∧ l = ps)) ∧ Aside0 (Bld w W g (fun k => w4.heap.size ≤ k) v ⟨a3_0, a3_1, a3_2⟩ 2 0 l) ∧ Aside0 (Fr (fun k => w4.heap.size ≤ k) g w4 W))
  case atStart => exact ⟨_, [], 0, rfl, ⟨Or.inl ⟨rfl, rfl, rfl⟩⟩, HBLD, ⟨⟨Nat.le_refl _, fun _ _ _ _ => rfl⟩⟩⟩
  case round =>
    obtain ⟨v, l, i, rfl, HS, HW, HFR⟩ := hrel
    rcases HS.out with ⟨rfl, rfl, rfl⟩ | ⟨rfl, rfl, rfl⟩
    · clear HS
      have BFW := Aside0.mk ((HFR.out.2 f5 (blk_lt BF4.out) (Nat.not_le.2 (blk_lt BF4.out)) NFG.out).trans BF4.out)
      have HCW := Aside0.mk (Kd.C_below HR1.out.1 HW.out.below)
      obtain ⟨ad, ea, hx0, hx1, hx2, hx3, hx4, hx5, hx6⟩ := at_T78 HCW.out 0 (Int.le_refl _) LT0.out
      cases ea
      obtain ⟨ch, hch⟩ : ∃ ch, ch = rd_T78 l1 0 := ⟨_, rfl⟩
      have HCUT2 := Aside0.mk HCUT.out
      replace HCUT2 := HCUT2.out
      rw [← hch] at hx0 hx1 hx2 hx3 hx4 hx5 hx6 HCUT2
      have HCT := Aside0.mk HCUT2
      have HCH := Aside0.mk hch
      have e0 : ad.add ((0 : Int).toNat * 7) = ad := by simp [Addr.add]
      rw [e0] at hx0 hx1 hx2 hx3 hx4 hx5 hx6
      clear hch HCUT2 e0
      have lt0p := eq_true LT0.out
      have lt0q : (0 < l1.length) = True := eq_true (by have := LT0.out; omega)
      go_wp2_with (first | ((with_reducible refine gate_dst (N := 14) rfl ?_); refine box_event ?hg (N := 14) ?hd (cs := #[.bool false, .int .i64 0, .int .i64 0, .int .i64 0, .int .i64 0, .int .i64 0, .int .i64 0]) (t := 78) ?hr ?_; (case hd => rfl); (case hg => rfl); (case hr => first | (go_simp; done) | (go_simp; rfl)); intro gb hg w5 hbox hb; have BC5 := Aside0.mk hbox; have HB5 := Aside0.mk hb; have BF5 := Aside0.mk (blk_below BFW.out hb); have GE := Aside0.mk (Nat.le_of_eq hg.symm : wr.heap.size ≤ gb); have NE := Aside0.mk ((by rw [hg]; exact Nat.ne_of_gt (blk_lt BFW.out)) : gb ≠ f5); have hne := NE.out; have hne' := Ne.symm NE.out; clear hg; have y0 := (blk_cell hbox 0).trans (show _ = some (Value.bool false) from rfl); have y1 := (blk_cell hbox 1).trans (show _ = some (Value.int .i64 0) from rfl); have y2 := (blk_cell hbox 2).trans (show _ = some (Value.int .i64 0) from rfl); have y3 := (blk_cell hbox 3).trans (show _ = some (Value.int .i64 0) from rfl); have y4 := (blk_cell hbox 4).trans (show _ = some (Value.int .i64 0) from rfl); have y5 := (blk_cell hbox 5).trans (show _ = some (Value.int .i64 0) from rfl); have y6 := (blk_cell hbox 6).trans (show _ = some (Value.int .i64 0) from rfl); have x0 := blk_frozen hbox 0; have x1 := blk_frozen hbox 1; have x2 := blk_frozen hbox 2; have x3 := blk_frozen hbox 3; have x4 := blk_frozen hbox 4; have x5 := blk_frozen hbox 5; have x6 := blk_frozen hbox 6; have u0 := (blk_cell BF5.out 0).trans (show _ = some (Value.slice A0_0 l0_0.length c0_0) from rfl); have u1 := (blk_cell BF5.out 1).trans (show _ = some (Value.slice A0_1 l0_1.length c0_1) from rfl); have u2 := (blk_cell BF5.out 2).trans (show _ = some (Value.slice A0_2 l0_2.length c0_2) from rfl); clear hbox hb))
      have HB6 : Aside0 (Below wr.heap.size wr (((((((w5.setCell ⟨gb, 0, none⟩ (.bool ch.f0)).setCell ⟨gb, 1, none⟩ (.int .i64 ch.f1.f0)).setCell ⟨gb, 2, none⟩ (.int .i64 ch.f1.f1)).setCell ⟨gb, 3, none⟩ (.int .i64 ch.f2.f0)).setCell ⟨gb, 4, none⟩ (.int .i64 ch.f2.f1)).setCell ⟨gb, 5, none⟩ (.int .i64 ch.f3.f0)).setCell ⟨gb, 6, none⟩ (.int .i64 ch.f3.f1))) := ⟨(below_set (j := 6) (v := .int .i64 ch.f3.f1) (below_set (j := 5) (v := .int .i64 ch.f3.f0) (below_set (j := 4) (v := .int .i64 ch.f2.f1) (below_set (j := 3) (v := .int .i64 ch.f2.f0) (below_set (j := 2) (v := .int .i64 ch.f1.f1) (below_set (j := 1) (v := .int .i64 ch.f1.f0) (below_set (j := 0) (v := .bool ch.f0) HB5.out GE.out) GE.out) GE.out) GE.out) GE.out) GE.out) GE.out)⟩
      clear y0 y1 y2 y3 y4 y5 y6 x0 x1 x2 x3 x4 x5 x6 u0 u1 u2 hne hne' hx0 hx1 hx2 hx3 hx4 hx5 hx6
      generalize (((((((w5.setCell ⟨gb, 0, none⟩ (.bool ch.f0)).setCell ⟨gb, 1, none⟩ (.int .i64 ch.f1.f0)).setCell ⟨gb, 2, none⟩ (.int .i64 ch.f1.f1)).setCell ⟨gb, 3, none⟩ (.int .i64 ch.f2.f0)).setCell ⟨gb, 4, none⟩ (.int .i64 ch.f2.f1)).setCell ⟨gb, 5, none⟩ (.int .i64 ch.f3.f0)).setCell ⟨gb, 6, none⟩ (.int .i64 ch.f3.f1)) = w6 at HB6 ⊢
      have HB6' := Aside0.mk (below_step HW.out.below HB6.out)
      refine (build_Files_cut.calls k A0_0 c0_0 l0_0 A0_1 c0_1 l0_1 A0_2 c0_2 l0_2 ch.f0 ch.f1.f0 ch.f1.f1 ch.f2.f0 ch.f2.f1 ch.f3.f0 ch.f3.f1 t0 t1 t2 t3 t4 t5 t6 b1 b2 b3 4 w6 (Kd.C_below HA0.out.1 HB6'.out) HA0.out.2 (Kd.C_below HA1.out.1 HB6'.out) HA1.out.2 (Kd.C_below HA2.out.1 HB6'.out) HA2.out.2 HCT.out).mono ?_
      rintro e w7 ⟨v7, v8, v9, rfl, ho0, ho1, ho2, hb⟩
      obtain ⟨A7, c7, rfl, hl7, _⟩ := Kd.R_reads ho0
      obtain ⟨A8, c8, rfl, hl8, _⟩ := Kd.R_reads ho1
      obtain ⟨A9, c9, rfl, hl9, _⟩ := Kd.R_reads ho2
      have HX := Aside0.mk (Bld.cut HW.out (below_step HB6.out hb) HB6.out.size ho0 ho1 ho2)
      have HF7 := Aside0.mk (F_cut (ok := fun k => w4.heap.size ≤ k) (g := g) (Q := fun k => some k = (Value.slice A7 b1.length c7).ownBlock ∨ some k = (Value.slice A8 b2.length c8).ownBlock ∨ some k = (Value.slice A9 b3.length c9).ownBlock) (Nat.lt_of_lt_of_le (blk_lt HW.out.blk) HB6.out.size) ho0 (fun _ h => Or.inl h))
      have HF8 := Aside0.mk (F_cut (ok := fun k => w4.heap.size ≤ k) (g := g) (Q := fun k => some k = (Value.slice A7 b1.length c7).ownBlock ∨ some k = (Value.slice A8 b2.length c8).ownBlock ∨ some k = (Value.slice A9 b3.length c9).ownBlock) (Nat.lt_of_lt_of_le (blk_lt HW.out.blk) HB6.out.size) ho1 (fun _ h => Or.inr (Or.inl h)))
      have HF9 := Aside0.mk (F_cut (ok := fun k => w4.heap.size ≤ k) (g := g) (Q := fun k => some k = (Value.slice A7 b1.length c7).ownBlock ∨ some k = (Value.slice A8 b2.length c8).ownBlock ∨ some k = (Value.slice A9 b3.length c9).ownBlock) (Nat.lt_of_lt_of_le (blk_lt HW.out.blk) HB6.out.size) ho2 (fun _ h => Or.inr (Or.inr h)))
      have HR7 := Aside0.mk (HFR.out.trans (Fr.of_below (below_step HB6.out hb)))
      have HL7 := Aside0.mk (And.intro hl7 (And.intro hl8 hl9))
      clear ho0 ho1 ho2 hl7 hl8 hl9 hb
      go_wp2_with fail
      obtain ⟨n1, n2, n3, n4, n5⟩ := HNM.out
      obtain ⟨j1, j2, j3, j4, j5⟩ := HALL.out
      refine (build_builder_piece.calls k g _ v ⟨a3_0, a3_1, a3_2⟩ 2 0 [] t0 t1 t2 t3 t4 t5 t6 4 A7 c7 b1 A8 c8 b2 A9 c9 b3 w w7 HX.out HF7.out HL7.out.1 HF8.out HL7.out.2.1 HF9.out HL7.out.2.2 n m rfl rfl rfl n1 n2 n3 n4 n5 (by simp) jb jl jr s1 s3 j1 j2 j3 j4 j5).mono ?_
      rintro e w8 ⟨rfl, ⟨v', hW⟩, hfr⟩
      have HW8 := Aside0.mk (hW.widen (ok := fun k => w4.heap.size ≤ k) (fun k e => e.1) HW.out.nog)
      have HR8 := Aside0.mk (HR7.out.trans (hfr.mono (fun k e => e.1)))
      clear hW hfr n1 n2 n3 n4 n5 j1 j2 j3 j4 j5
      rw [HPS.out] at HW8
      go_wp2_with fail
      go_roundg 0
      case measure => omega
      case rel => exact ⟨v', ps, 1, rfl, ⟨Or.inr ⟨rfl, rfl, rfl⟩⟩, HW8, HR8⟩
    · clear HS
      obtain ⟨Av, cv, rfl, hlv, hCv⟩ := Kd.R_reads HW.out.own
      have HCv := Aside0.mk (And.intro hlv hCv)
      clear hlv hCv
      have hg5 := (blk_cell HW.out.blk 5).trans (show _ = some (Value.slice Av _ cv) from rfl)
      go_wp2_with fail
      refine (doc_Of.calls k Av cv _ d wr HCv.out.2 HCv.out.1 HD.out).mono ?_
      rintro e w9 ⟨v0, rfl, hR, hb⟩
      have HRR := Aside0.mk (Kd.R_lower hR (below_size HW.out.below))
      have HBB := Aside0.mk (below_step HW.out.below hb)
      clear hR hb
      go_wp2_with fail
      go_ret2
      exact ⟨v0, rfl, HRR.out, HBB.out⟩
end Go.Proofs.Ytadafplbgophfaa.PA
end
section
namespace Go.Proofs.Ytadafplbgophfaa.PA
open Go.RowKit
namespace T58
def a : ByteArray := ⟨#[97, 10]⟩
def x : ByteArray := ⟨#[120, 10]⟩
def y : ByteArray := ⟨#[121, 10]⟩
def z : ByteArray := ⟨#[122, 10]⟩
def cs : List S81 := [⟨false, ⟨0, 1⟩, ⟨0, 2⟩, ⟨0, 2⟩⟩]
def ch : List S78 := [⟨false, ⟨0, 1⟩, ⟨0, 2⟩, ⟨0, 2⟩⟩]
def e : ByteArray := ⟨#[]⟩
def d : List S120 := [⟨⟨e, e, e⟩, false, x, e, e, e, false⟩, ⟨⟨⟨#[111]⟩, e, e⟩, true, e, y, a, z, true⟩]
theorem some_ok : tripartitelaw10_Some.f 40 ⟨#[97, 10]⟩ ⟨#[120, 10, 121, 10]⟩ ⟨#[120, 10, 122, 10]⟩ = some ([a], [x, y], [x, z], cs) := by kernel_rfl
theorem to_ok : tripartitelaw10_To.f [a] [x, y] [x, z] = some ([a], [x, y], [x, z]) := by kernel_rfl
theorem chunks_ok : tripartitelaw10_Chunks.f 40 cs = some ch := by kernel_rfl
theorem doc_ok : build_Doc.f 40 [a] [x, y] [x, z] ch 2 ⟨#[111]⟩ ⟨#[]⟩ ⟨#[]⟩ 0 = some (d, 0) := by kernel_rfl
theorem count_ok : build_Count.f 40 [a] [x, y] [x, z] ch = some 1 := by kernel_rfl
theorem facts : ∃ (l0 l1 l2 : List ByteArray) (cs : List S81) (ch : List S78) (d : List S120), tripartitelaw10_Some.f 40 ⟨#[97, 10]⟩ ⟨#[120, 10, 121, 10]⟩ ⟨#[120, 10, 122, 10]⟩ = some (l0, l1, l2, cs) ∧ tripartitelaw10_To.f l0 l1 l2 = some (l0, l1, l2) ∧ tripartitelaw10_Chunks.f 40 cs = some ch ∧ build_Doc.f 40 l0 l1 l2 ch 2 ⟨#[111]⟩ ⟨#[]⟩ ⟨#[]⟩ 0 = some (d, 0) ∧ build_Count.f 40 l0 l1 l2 ch = some 1 ∧
    d.length = 2 ∧ (rd_T120 d 0).f2 = ⟨#[120, 10]⟩ ∧ (rd_T120 d 1).f1 = true ∧ (rd_T120 d 1).f3 = ⟨#[121, 10]⟩ ∧ (rd_T120 d 1).f5 = ⟨#[122, 10]⟩ ∧ (rd_T120 d 1).f4 = ⟨#[97, 10]⟩ ∧ (rd_T120 d 1).f0.f0 = ⟨#[111]⟩ :=
  ⟨_, _, _, _, _, _, some_ok, to_ok, chunks_ok, doc_ok, count_ok, rfl, rfl, rfl, rfl, rfl, rfl, rfl⟩
end T58
end Go.Proofs.Ytadafplbgophfaa.PA
end
section
namespace Go.Proofs.Ytadafplbgophfaa.PA
set_option linter.unusedSimpArgs false
set_option linter.unusedVariables false
open Go.RowKit Go.Proofs.YtadafplbgophfaaW.PrintWords Go.Proofs.YtadafplbgophfaaW.PrintLast Go.Proofs.YtadafplbgophfaaW.PrintMore
set_option maxHeartbeats 8000000 in
set_option maxRecDepth 100000 in
theorem tripartitelaw10_told.calls (w : World) : Calls Try.prog 58 #[] w fun e w' => e = .returned (.bool true) ∧ Below w.heap.size w w' := by
  obtain ⟨l0, l1, l2, cs, ch, d, h1, h2, h3, h4, h5, hd, g0, g1, g2, g3, g4, g5⟩ := T58.facts
  have F1 := Aside0.mk h1
  have F2 := Aside0.mk h2
  have F3 := Aside0.mk h3
  have F4 := Aside0.mk h4
  have F5 := Aside0.mk h5
  have FD := Aside0.mk (And.intro hd (And.intro g0 (And.intro g1 (And.intro g2 (And.intro g3 (And.intro g4 g5))))))
  clear h1 h2 h3 h4 h5 hd g0 g1 g2 g3 g4 g5
  have hu107 := Try.underlying107
  have hu116 := Try.underlying116
  have hu120 := Try.underlying120
  go_enter Try.func58, Try.ntmps58
  go_wp2_with fail
  refine (tripartitelaw10_Some.calls 40 _ _ _ l0 l1 l2 cs w F1.out).mono ?_
  rintro e w1 ⟨A0, A1, A2, A3, c0, c1, c2, c3, rfl, ⟨hC0, hL0⟩, ⟨hC1, hL1⟩, ⟨hC2, hL2⟩, ⟨hC3, hL3⟩, hB⟩
  have HA0 := Aside0.mk hC0
  have HA1 := Aside0.mk hC1
  have HA2 := Aside0.mk hC2
  have HA3 := Aside0.mk hC3
  have LA0 := Aside0.mk hL0
  have LA1 := Aside0.mk hL1
  have LA2 := Aside0.mk hL2
  have LA3 := Aside0.mk hL3
  have HB := Aside0.mk hB
  clear hC0 hC1 hC2 hC3 hL0 hL1 hL2 hL3 hB
  go_wp2_with (first | ((with_reducible refine gate_dst (N := 1) rfl ?_); refine box_event ?hg (N := 1) ?hd (cs := #[.slice none 0 0, .slice none 0 0, .slice none 0 0]) (t := 107) ?hr ?_; (case hd => rfl); (case hg => rfl); (case hr => first | (go_simp; done) | (go_simp; rfl)); intro f1 hg w2 hbox hb; have B1 := Aside0.mk hbox; have HB12 := Aside0.mk hb; have GE1 := Aside0.mk ((by rw [hg]; exact below_size HB.out) : w.heap.size ≤ f1); have GE12 := Aside0.mk (Nat.le_of_eq hg.symm : w1.heap.size ≤ f1); replace HB := Aside0.mk (below_step HB.out hb); have y0 := (blk_cell hbox 0).trans (show _ = some (Value.slice none 0 0) from rfl); have y1 := (blk_cell hbox 1).trans (show _ = some (Value.slice none 0 0) from rfl); have y2 := (blk_cell hbox 2).trans (show _ = some (Value.slice none 0 0) from rfl); have x0 := blk_frozen hbox 0; have x1 := blk_frozen hbox 1; have x2 := blk_frozen hbox 2; clear hg hbox hb))
  have hb13 := below3 HB12.out GE12.out (.slice A0 l0.length c0) (.slice A1 l1.length c1) (.slice A2 l2.length c2)
  replace HA0 := Aside0.mk (Kd.C_below HA0.out hb13)
  replace HA1 := Aside0.mk (Kd.C_below HA1.out hb13)
  replace HA2 := Aside0.mk (Kd.C_below HA2.out hb13)
  replace HA3 := Aside0.mk (Kd.C_below HA3.out hb13)
  replace B1 := Aside0.mk (fill3_107 B1.out (.slice A0 l0.length c0) (.slice A1 l1.length c1) (.slice A2 l2.length c2))
  replace HB := Aside0.mk (below3 HB.out GE1.out (.slice A0 l0.length c0) (.slice A1 l1.length c1) (.slice A2 l2.length c2))
  clear hb13 HB12 GE12 GE1 y0 y1 y2 x0 x1 x2
  generalize (((w2.setCell ⟨f1, 0, none⟩ (.slice A0 l0.length c0)).setCell ⟨f1, 1, none⟩ (.slice A1 l1.length c1)).setCell ⟨f1, 2, none⟩ (.slice A2 l2.length c2)) = w3 at HA0 HA1 HA2 HA3 B1 HB ⊢
  refine (tripartitelaw10_To.calls A0 c0 l0 A1 c1 l1 A2 c2 l2 l0 l1 l2 _ HA0.out LA0.out HA1.out LA1.out HA2.out LA2.out F2.out).mono ?_
  rintro e w4 ⟨v0, v1, v2, rfl, hR0, hR1, hR2, hb⟩
  obtain ⟨X0, Xc0, rfl, hc, hC⟩ := Kd.R_reads hR0
  have HX0 := Aside0.mk hC
  have LX0 := Aside0.mk hc
  clear hc hC
  obtain ⟨X1, Xc1, rfl, hc, hC⟩ := Kd.R_reads hR1
  have HX1 := Aside0.mk hC
  have LX1 := Aside0.mk hc
  clear hc hC
  obtain ⟨X2, Xc2, rfl, hc, hC⟩ := Kd.R_reads hR2
  have HX2 := Aside0.mk hC
  have LX2 := Aside0.mk hc
  clear hc hC
  replace HA0 := Aside0.mk (Kd.C_below HA0.out hb)
  replace HA1 := Aside0.mk (Kd.C_below HA1.out hb)
  replace HA2 := Aside0.mk (Kd.C_below HA2.out hb)
  replace HA3 := Aside0.mk (Kd.C_below HA3.out hb)
  replace B1 := Aside0.mk (blk_below B1.out hb)
  replace HB := Aside0.mk (below_step HB.out hb)
  clear hR0 hR1 hR2 hb
  go_wp2_with fail
  refine (tripartitelaw10_Chunks.calls 40 A3 c3 cs ch _ HA3.out LA3.out F3.out).mono ?_
  rintro e w5 ⟨v0, rfl, hR, hb⟩
  obtain ⟨Y, Yc, rfl, hc, hC⟩ := Kd.R_reads hR
  have HY := Aside0.mk hC
  have LY := Aside0.mk hc
  replace HA0 := Aside0.mk (Kd.C_below HA0.out hb)
  replace HA1 := Aside0.mk (Kd.C_below HA1.out hb)
  replace HA2 := Aside0.mk (Kd.C_below HA2.out hb)
  replace HA3 := Aside0.mk (Kd.C_below HA3.out hb)
  replace HX0 := Aside0.mk (Kd.C_below HX0.out hb)
  replace HX1 := Aside0.mk (Kd.C_below HX1.out hb)
  replace HX2 := Aside0.mk (Kd.C_below HX2.out hb)
  replace B1 := Aside0.mk (blk_below B1.out hb)
  replace HB := Aside0.mk (below_step HB.out hb)
  clear hR hb hc hC
  go_wp2_with fail
  refine (build_Doc.calls 40 X0 Xc0 l0 X1 Xc1 l1 X2 Xc2 l2 Y Yc ch 2 _ _ _ 0 d 0 _ HX0.out LX0.out HX1.out LX1.out HX2.out LX2.out HY.out LY.out F4.out).mono ?_
  rintro e w6 ⟨v0, rfl, hR, hb⟩
  obtain ⟨D, Dc, rfl, hc, hC⟩ := Kd.R_reads hR
  replace HA0 := Aside0.mk (Kd.C_below HA0.out hb)
  replace HA1 := Aside0.mk (Kd.C_below HA1.out hb)
  replace HA2 := Aside0.mk (Kd.C_below HA2.out hb)
  replace HA3 := Aside0.mk (Kd.C_below HA3.out hb)
  replace HX0 := Aside0.mk (Kd.C_below HX0.out hb)
  replace HX1 := Aside0.mk (Kd.C_below HX1.out hb)
  replace HX2 := Aside0.mk (Kd.C_below HX2.out hb)
  replace HY := Aside0.mk (Kd.C_below HY.out hb)
  replace B1 := Aside0.mk (blk_below B1.out hb)
  replace HB := Aside0.mk (below_step HB.out hb)
  clear hR hb hc
  obtain ⟨hd, g0, g1, g2, g3, g4, g5⟩ := FD.out
  obtain ⟨ad, ea, u0, u1, u2, u3, u4, u5, u6, u7, u8⟩ := at_T120 hC 0 (Int.le_refl _) (by omega)
  cases ea
  obtain ⟨ad', ea, z0, z1, z2, z3, z4, z5, z6, z7, z8⟩ := at_T120 hC 1 (by decide) (by omega)
  cases ea
  have e0 : ad.add ((0 : Int).toNat * 9) = ad := by simp [Addr.add]
  rw [e0, g0] at u4
  clear u0 u1 u2 u3 u5 u6 u7 u8 z1 z2 z4 z8 e0 hC
  rw [g5] at z0
  rw [g1] at z3
  rw [g2] at z5
  rw [g4] at z6
  rw [g3] at z7
  rw [hd]
  clear hd g0 g1 g2 g3 g4 g5
  have e1 : (1 : Int).toNat * 9 = 9 := rfl
  rw [e1] at z0 z3 z5 z6 z7
  clear e1
  replace z0 : w6.cell? ⟨ad.block, ad.off + 9, none⟩ = some (.string ⟨#[111]⟩) := by simpa [Addr.add] using z0
  replace z3 : w6.cell? ⟨ad.block, ad.off + 9 + 3, none⟩ = some (.bool true) := by simpa [Addr.add] using z3
  replace z5 : w6.cell? ⟨ad.block, ad.off + 9 + 5, none⟩ = some (.string ⟨#[121, 10]⟩) := by simpa [Addr.add] using z5
  replace z6 : w6.cell? ⟨ad.block, ad.off + 9 + 6, none⟩ = some (.string ⟨#[97, 10]⟩) := by simpa [Addr.add] using z6
  replace z7 : w6.cell? ⟨ad.block, ad.off + 9 + 7, none⟩ = some (.string ⟨#[122, 10]⟩) := by simpa [Addr.add] using z7
  have p0 := (blk_cell B1.out 0).trans (show _ = some (Value.slice A0 l0.length c0) from rfl)
  have p1 := (blk_cell B1.out 1).trans (show _ = some (Value.slice A1 l1.length c1) from rfl)
  have p2 := (blk_cell B1.out 2).trans (show _ = some (Value.slice A2 l2.length c2) from rfl)
  go_wp2_with fail
  refine (tripartitelaw10_To.calls A0 c0 l0 A1 c1 l1 A2 c2 l2 l0 l1 l2 _ HA0.out LA0.out HA1.out LA1.out HA2.out LA2.out F2.out).mono ?_
  rintro e w7 ⟨v0, v1, v2, rfl, hR0, hR1, hR2, hb⟩
  obtain ⟨Z0, Zc0, rfl, hc, hC⟩ := Kd.R_reads hR0
  have HZ0 := Aside0.mk hC
  have LZ0 := Aside0.mk hc
  clear hc hC
  obtain ⟨Z1, Zc1, rfl, hc, hC⟩ := Kd.R_reads hR1
  have HZ1 := Aside0.mk hC
  have LZ1 := Aside0.mk hc
  clear hc hC
  obtain ⟨Z2, Zc2, rfl, hc, hC⟩ := Kd.R_reads hR2
  have HZ2 := Aside0.mk hC
  have LZ2 := Aside0.mk hc
  clear hc hC
  replace HA0 := Aside0.mk (Kd.C_below HA0.out hb)
  replace HA1 := Aside0.mk (Kd.C_below HA1.out hb)
  replace HA2 := Aside0.mk (Kd.C_below HA2.out hb)
  replace HA3 := Aside0.mk (Kd.C_below HA3.out hb)
  replace HX0 := Aside0.mk (Kd.C_below HX0.out hb)
  replace HX1 := Aside0.mk (Kd.C_below HX1.out hb)
  replace HX2 := Aside0.mk (Kd.C_below HX2.out hb)
  replace HY := Aside0.mk (Kd.C_below HY.out hb)
  replace B1 := Aside0.mk (blk_below B1.out hb)
  replace HB := Aside0.mk (below_step HB.out hb)
  clear hR0 hR1 hR2 hb
  clear u4 z0 z3 z5 z6 z7 p0 p1 p2
  go_wp2_with fail
  refine (tripartitelaw10_Chunks.calls 40 A3 c3 cs ch _ HA3.out LA3.out F3.out).mono ?_
  rintro e w8 ⟨v0, rfl, hR, hb⟩
  obtain ⟨V, Vc, rfl, hc, hC⟩ := Kd.R_reads hR
  have HV := Aside0.mk hC
  have LV := Aside0.mk hc
  replace HA0 := Aside0.mk (Kd.C_below HA0.out hb)
  replace HA1 := Aside0.mk (Kd.C_below HA1.out hb)
  replace HA2 := Aside0.mk (Kd.C_below HA2.out hb)
  replace HA3 := Aside0.mk (Kd.C_below HA3.out hb)
  replace HX0 := Aside0.mk (Kd.C_below HX0.out hb)
  replace HX1 := Aside0.mk (Kd.C_below HX1.out hb)
  replace HX2 := Aside0.mk (Kd.C_below HX2.out hb)
  replace HY := Aside0.mk (Kd.C_below HY.out hb)
  replace HZ0 := Aside0.mk (Kd.C_below HZ0.out hb)
  replace HZ1 := Aside0.mk (Kd.C_below HZ1.out hb)
  replace HZ2 := Aside0.mk (Kd.C_below HZ2.out hb)
  replace B1 := Aside0.mk (blk_below B1.out hb)
  replace HB := Aside0.mk (below_step HB.out hb)
  clear hR hb hc hC
  go_wp2_with fail
  refine (build_Count.calls 40 Z0 Zc0 l0 Z1 Zc1 l1 Z2 Zc2 l2 V Vc ch 1 _ HZ0.out LZ0.out HZ1.out LZ1.out HZ2.out LZ2.out HV.out LV.out F5.out).mono ?_
  rintro e w9 ⟨rfl, hb⟩
  replace HA0 := Aside0.mk (Kd.C_below HA0.out hb)
  replace HA1 := Aside0.mk (Kd.C_below HA1.out hb)
  replace HA2 := Aside0.mk (Kd.C_below HA2.out hb)
  replace HA3 := Aside0.mk (Kd.C_below HA3.out hb)
  replace HX0 := Aside0.mk (Kd.C_below HX0.out hb)
  replace HX1 := Aside0.mk (Kd.C_below HX1.out hb)
  replace HX2 := Aside0.mk (Kd.C_below HX2.out hb)
  replace HY := Aside0.mk (Kd.C_below HY.out hb)
  replace HZ0 := Aside0.mk (Kd.C_below HZ0.out hb)
  replace HZ1 := Aside0.mk (Kd.C_below HZ1.out hb)
  replace HZ2 := Aside0.mk (Kd.C_below HZ2.out hb)
  replace HV := Aside0.mk (Kd.C_below HV.out hb)
  replace B1 := Aside0.mk (blk_below B1.out hb)
  replace HB := Aside0.mk (below_step HB.out hb)
  clear hb
  go_wp2_with fail
  go_ret
  exact ⟨rfl, HB.out⟩
end Go.Proofs.Ytadafplbgophfaa.PA
end
section
namespace Go.Proofs.Ytadafplbgophfaa.PA
set_option linter.unusedSimpArgs false
set_option linter.unusedVariables false
open Go.RowKit Go.Proofs.YtadafplbgophfaaW.PrintWords Go.Proofs.YtadafplbgophfaaW.PrintLast Go.Proofs.YtadafplbgophfaaW.PrintMore
attribute [local go_sem] max2_int min2_int max_two min_two max_three min_three max_four min_four
theorem min_len12 (n N : Nat) (M : Int) (h : M = N) : ∃ j : Int, (if M < (n : Int) then M else (n : Int)) = j ∧ (if N < n then M else (n : Int)) = j ∧ 0 ≤ j ∧ j ≤ n ∧ j ≤ M := by
  refine ⟨_, rfl, ?_, ?_, ?_, ?_⟩ <;> (repeat' split) <;> omega
set_option maxHeartbeats 8000000 in
set_option maxRecDepth 100000 in
theorem BuildHoists_walk (A0 : Option Addr) (c0 : Nat) (l0 : List ByteArray) (A1 : Option Addr) (c1 : Nat) (l1 : List ByteArray) (w : World) (hr0 : Kd.C Kd.string w A0 l0.length l0) (hc0 : l0.length ≤ c0) (hr1 : Kd.C Kd.string w A1 l1.length l1) (hc1 : l1.length ≤ c1) :
    Calls Try.prog 12 #[.slice A0 l0.length c0, .slice A1 l1.length c1] w fun e w' => e = .returned (.bool true) ∧ Below w.heap.size w w' := by
  obtain ⟨j0, hj0, hj0n, lo0, hi0, up0⟩ := min_len12 l0.length 100 100 rfl
  obtain ⟨j1, hj1, hj1n, lo1, hi1, up1⟩ := min_len12 l1.length 100 100 rfl
  obtain ⟨i9, info9', _, hsz9, _⟩ := info_parts info9
  obtain ⟨hcut0, hC0, hl0⟩ := cut_h Kd.string 27 9 Try.underlying27 info9' hsz9 A0 c0 l0 j0 lo0 hi0 hc0
  obtain ⟨hcut1, hC1, hl1⟩ := cut_h Kd.string 27 9 Try.underlying27 info9' hsz9 A1 c1 l1 j1 lo1 hi1 hc1
  have z0 : (l0.take j0.toNat).length ≤ 100 := by rw [List.length_take]; omega
  have z1 : (l1.take j1.toNat).length ≤ 100 := by rw [List.length_take]; omega
  obtain ⟨n, m, ⟨k1, h1⟩, ⟨k2, h2⟩⟩ := Pure.Txt.facts12 (l0.take j0.toNat) (l1.take j1.toNat) (by omega) (by omega)
  replace hC0 := hC0 w hr0
  replace hC1 := hC1 w hr1
  generalize l0.take j0.toNat = a at *
  generalize l1.take j1.toNat = b at *
  have F1 := Aside0.mk h1
  have F2 := Aside0.mk h2
  have Ha := Aside0.mk hC0
  have Hb := Aside0.mk hC1
  have La := Aside0.mk hl0
  have Lb := Aside0.mk hl1
  clear hr0 hc0 hr1 hc1 h1 h2 hC0 hC1 hl0 hl1 info9' hsz9 z0 z1
  go_enter Try.func12, Try.ntmps12
  go_wp2_with fail
  go_quiet (fail)
  have HB := Aside0.mk (pw_below_drewN (Below.refl w.heap.size w) nq)
  replace Ha := Aside0.mk (Kd.C_below Ha.out HB.out)
  replace Hb := Aside0.mk (Kd.C_below Hb.out HB.out)
  clear hcut0 hcut1 hj0 hj1 hj0n hj1n
  go_wp2_with fail
  refine (build_Hoist.calls k1 A0 c0 a A1 c1 b n m _ Ha.out La.out Hb.out Lb.out F1.out).mono ?_
  rintro e W1 ⟨rfl, hD⟩
  have hB := Drawn0.below hD
  replace Ha := Aside0.mk (Kd.C_below Ha.out hB)
  replace Hb := Aside0.mk (Kd.C_below Hb.out hB)
  replace HB := Aside0.mk (below_step HB.out hB)
  clear hD hB
  go_wp2_with fail
  refine (tripartiteref02_EndsText.calls k2 A0 c0 a A1 c1 b n m _ Ha.out La.out Hb.out Lb.out F2.out).mono ?_
  rintro e W2 ⟨rfl, hD⟩
  have hB := Drawn0.below hD
  replace HB := Aside0.mk (below_step HB.out hB)
  clear hD hB
  go_wp2_with fail
  refine (tripartitelaw10_told.calls _).mono ?_
  rintro e W3 ⟨rfl, hB⟩
  replace HB := Aside0.mk (below_step HB.out hB)
  clear hB
  go_wp2_with fail
  go_ret
  exact ⟨rfl, HB.out⟩
end Go.Proofs.Ytadafplbgophfaa.PA
end
