/- Part 1 of what the row of the law EditApplies rests on: walks of functions, and plain lemmas. -/
import Derived.Test.YtadafplbgophfaaProg
import Derived.Below
import Derived.Deep.Draws
import Derived.Deep.AppendLies
import Derived.Maps.AppendAt
import Derived.OwnWalk
import Derived.Laws.BytesArg
import Derived.Laws.MakeOwn
import Derived.Laws.OwnMore
import Derived.Deep.OwnRows
import Derived.Tactics
import Derived.Lib.ConvBytes
import Derived.Laws.Slices
import Derived.WalkKit
import Derived.KernelRfl
import Derived.RowKit3
import Derived.Deep.LoopGhost
import Derived.Deep.QuietTactic
import Derived.BigQuiet
import Derived.WideLaws
import Derived.Deep.DeepCutAuto
import Derived.Deep.CutBlock
import Derived.Deep.RegionHeld3
import Derived.Laws.Rows
import Derived.Lib.AppendStr
import Derived.ArgAppend
import Derived.Laws.IdiomCopy
import Derived.OrdersHeld
import Derived.Laws.BitsLemmas
import Derived.RowKit
import Derived.Test.YtadafplbgophfaaWWords
import Derived.Test.YtadafplbgophfaaWLast
import Derived.Test.YtadafplbgophfaaWTab
import Derived.Test.YtadafplbgophfaaWFour
import Derived.Test.YtadafplbgophfaaWQPut
import Derived.Test.YtadafplbgophfaaWApart
import Derived.Test.YtadafplbgophfaaWArr
import Derived.Test.YtadafplbgophfaaWZeros
import Derived.Test.YtadafplbgophfaaWFoot
import Derived.Test.YtadafplbgophfaaWKept
import Derived.Test.YtadafplbgophfaaWShare
import Derived.Test.YtadafplbgophfaaWN
import Derived.Test.YtadafplbgophfaaWFootNe
import Derived.Test.YtadafplbgophfaaWAt
import Derived.Test.YtadafplbgophfaaWEqStruct
import Derived.Test.YtadafplbgophfaaWRepsOne
import Derived.Test.YtadafplbgophfaaWInv
import Derived.Test.YtadafplbgophfaaWInvWords
import Derived.Test.YtadafplbgophfaaWGuard
import Derived.Test.YtadafplbgophfaaWNEv
import Derived.Test.YtadafplbgophfaaWMore
import Derived.Outline
import Derived.Lib.SliceRun
import Derived.Maps.OwnSet
import Derived.Carry
import Derived.Maps.Keyed
section
-- Written by a program of this seat out of the translation. Not trusted: Lean checks it.
namespace Go.Proofs.Ytadafplbgophfaa.PA
open Go.RowKit Go.Proofs.YtadafplbgophfaaW.PrintWords Go.Proofs.YtadafplbgophfaaW.PrintLast Go.Proofs.YtadafplbgophfaaW.PrintMore
attribute [local go_sem] max2_int min2_int max_two min_two max_three min_three max_four min_four   -- for this text's walks alone
set_option linter.unusedVariables false
set_option linter.unusedSimpArgs false



def errW : Option Int → Value
  | none => .nilIface
  | some c => .iface 0 (.int .i64 c)
theorem errW_none : errW none = .nilIface := rfl
theorem errW_some (c : Int) : errW (some c) = .iface 0 (.int .i64 c) := rfl

theorem info3 : (Try.prog.info? 3).map (fun i => (i.zero, i.size, i.bytes)) = some (some (.int .i64 0), 1, 8) := by kernel_rfl
theorem info4 : (Try.prog.info? 4).map (fun i => (i.zero, i.size, i.bytes)) = some (some (.bool false), 1, 1) := by kernel_rfl
theorem info5 : (Try.prog.info? 5).map (fun i => (i.zero, i.size, i.bytes)) = some (some (.int .u8 0), 1, 1) := by kernel_rfl
theorem info9 : (Try.prog.info? 9).map (fun i => (i.zero, i.size, i.bytes)) = some (some (.string ⟨#[]⟩), 1, 16) := by kernel_rfl
theorem info22 : (Try.prog.info? 22).map (fun i => (i.zero, i.size, i.bytes)) = some (some (.slice none 0 0), 1, 24) := by kernel_rfl
theorem info27 : (Try.prog.info? 27).map (fun i => (i.zero, i.size, i.bytes)) = some (some (.slice none 0 0), 1, 24) := by kernel_rfl
theorem info37 : (Try.prog.info? 37).map (fun i => (i.zero, i.size, i.bytes)) = some (some (.agg #[(.int .i64 0), (.int .i64 0)]), 2, 16) := by kernel_rfl
theorem info39 : (Try.prog.info? 39).map (fun i => (i.zero, i.size, i.bytes)) = some (some (.agg #[(.int .i64 0), (.int .i64 0)]), 2, 16) := by kernel_rfl
theorem info78 : (Try.prog.info? 78).map (fun i => (i.zero, i.size, i.bytes)) = some (some (.agg #[(.bool false), (.int .i64 0), (.int .i64 0), (.int .i64 0), (.int .i64 0), (.int .i64 0), (.int .i64 0)]), 7, 56) := by kernel_rfl
theorem info81 : (Try.prog.info? 81).map (fun i => (i.zero, i.size, i.bytes)) = some (some (.agg #[(.bool false), (.int .i64 0), (.int .i64 0), (.int .i64 0), (.int .i64 0), (.int .i64 0), (.int .i64 0)]), 7, 56) := by kernel_rfl
theorem info120 : (Try.prog.info? 120).map (fun i => (i.zero, i.size, i.bytes)) = some (some (.agg #[(.string ⟨#[]⟩), (.string ⟨#[]⟩), (.string ⟨#[]⟩), (.bool false), (.string ⟨#[]⟩), (.string ⟨#[]⟩), (.string ⟨#[]⟩), (.string ⟨#[]⟩), (.bool false)]), 9, 128) := by kernel_rfl
theorem info123 : (Try.prog.info? 123).map (fun i => (i.zero, i.size, i.bytes)) = some (some (.agg #[(.string ⟨#[]⟩), (.string ⟨#[]⟩), (.string ⟨#[]⟩), (.bool false), (.string ⟨#[]⟩), (.string ⟨#[]⟩), (.string ⟨#[]⟩), (.string ⟨#[]⟩), (.bool false)]), 9, 128) := by kernel_rfl
theorem info143 : (Try.prog.info? 143).map (fun i => (i.zero, i.size, i.bytes)) = some (some (.agg #[(.int .i64 0), (.slice none 0 0)]), 2, 32) := by kernel_rfl
theorem info144 : (Try.prog.info? 144).map (fun i => (i.zero, i.size, i.bytes)) = some (some (.agg #[(.int .i64 0), (.slice none 0 0)]), 2, 32) := by kernel_rfl
-- the values' own types
def rd_L6 (xs : List (List Int)) (i : Int) : (List Int) := xs.getD i.toNat ([] : List Int)
theorem at_L6 {w : World} {A : Option Addr} {n : Nat} {xs : List (List Int)} (h : Kd.C (Kd.slice 3 (Kd.int .i64)) w A n xs) (i : Int) (h0 : 0 ≤ i) (h1 : i < n) : ∃ ad A0 c0, A = some ad ∧ w.cell? (ad.add i.toNat) = some (.slice A0 (rd_L6 xs i).length c0) ∧ (rd_L6 xs i).length ≤ c0 ∧ (Kd.int .i64).C w A0 (rd_L6 xs i).length (rd_L6 xs i) := by
  obtain ⟨ad, c, e, _, hK, hc0⟩ := Kd.C_get h ([] : List Int) i h0 h1
  have hc : ∀ j u, c[j]? = some u → w.cell? (ad.add (i.toNat * 1 + j)) = some u := hc0
  obtain ⟨A0, c0, rfl, l0, g0⟩ := hK
  exact ⟨ad, A0, c0, e, by have hq := hc 0 _ rfl; rwa [Nat.mul_one, Nat.add_zero] at hq, l0, g0⟩

def rd_L7 (xs : List (List ByteArray)) (i : Int) : (List ByteArray) := xs.getD i.toNat ([] : List ByteArray)
theorem at_L7 {w : World} {A : Option Addr} {n : Nat} {xs : List (List ByteArray)} (h : Kd.C (Kd.slice 9 Kd.string) w A n xs) (i : Int) (h0 : 0 ≤ i) (h1 : i < n) : ∃ ad A0 c0, A = some ad ∧ w.cell? (ad.add i.toNat) = some (.slice A0 (rd_L7 xs i).length c0) ∧ (rd_L7 xs i).length ≤ c0 ∧ Kd.string.C w A0 (rd_L7 xs i).length (rd_L7 xs i) := by
  obtain ⟨ad, c, e, _, hK, hc0⟩ := Kd.C_get h ([] : List ByteArray) i h0 h1
  have hc : ∀ j u, c[j]? = some u → w.cell? (ad.add (i.toNat * 1 + j)) = some u := hc0
  obtain ⟨A0, c0, rfl, l0, g0⟩ := hK
  exact ⟨ad, A0, c0, e, by have hq := hc 0 _ rfl; rwa [Nat.mul_one, Nat.add_zero] at hq, l0, g0⟩

/-! #### struct type 37 -/
structure S37 where
  f0 : Int
  f1 : Int
def z37 : S37 := ⟨(0 : Int), (0 : Int)⟩
def k37 : Kd S37 := Kd.iso (Kd.pair (Kd.int .i64) (Kd.int .i64)) (fun x : S37 => (x.f0, x.f1))
theorem k37_heap : Kd.Heap k37 := Kd.heap_iso _ (Kd.heap_pair (Kd.heap_int .i64) (Kd.heap_int .i64))
theorem k37_open {w : World} {x : S37} {cs : List Value} (h : k37.K w x cs) : cs = [.int .i64 x.f0, .int .i64 x.f1] := by
  obtain ⟨_, _, rfl, rfl, rfl⟩ := h
  exact rfl
theorem k37_openM {w : World} {base : Nat} {ok : Nat → Prop} {x : S37} {cs : List Value} (h : k37.M w base ok x cs) : cs = [.int .i64 x.f0, .int .i64 x.f1] := by
  obtain ⟨_, _, rfl, rfl, rfl⟩ := h
  exact rfl
theorem k37_mk (w : World) (x : S37)  : k37.K w x [.int .i64 x.f0, .int .i64 x.f1] := ⟨[.int .i64 x.f0], [.int .i64 x.f1], rfl, rfl, rfl⟩
theorem k37_mkM (w : World) (base : Nat) (ok : Nat → Prop) (x : S37)  : k37.M w base ok x [.int .i64 x.f0, .int .i64 x.f1] := ⟨[.int .i64 x.f0], [.int .i64 x.f1], rfl, rfl, rfl⟩
theorem k37_mkF (W : World) (ok : Nat → Prop) (x : S37) : Kd.FK k37 W ok x [.int .i64 x.f0, .int .i64 x.f1] := fun W2 _ => k37_mk W2 x
def rd_T37 (xs : List S37) (i : Int) : S37 := xs.getD i.toNat z37
theorem at_T37 {w : World} {A : Option Addr} {n : Nat} {xs : List S37} (h : Kd.C k37 w A n xs) (i : Int) (h0 : 0 ≤ i) (h1 : i < n) : ∃ ad , A = some ad ∧ w.cell? (ad.add (i.toNat * 2)) = some (.int .i64 (rd_T37 xs i).f0) ∧ w.cell? ⟨(ad.add (i.toNat * 2)).block, (ad.add (i.toNat * 2)).off + 1, none⟩ = some (.int .i64 (rd_T37 xs i).f1) := by
  obtain ⟨ad, c, e, _, hK, hc0⟩ := Kd.C_get h z37 i h0 h1
  have hc : ∀ j u, c[j]? = some u → w.cell? (ad.add (i.toNat * 2 + j)) = some u := hc0
  obtain rfl := k37_open hK
  exact ⟨ad, e, hc 0 _ rfl, by rw [← add_field _ _ 1 (by omega)]; exact hc 1 _ rfl⟩

def rd_L9 (xs : List (List S37)) (i : Int) : (List S37) := xs.getD i.toNat ([] : List S37)
theorem at_L9 {w : World} {A : Option Addr} {n : Nat} {xs : List (List S37)} (h : Kd.C (Kd.slice 37 k37) w A n xs) (i : Int) (h0 : 0 ≤ i) (h1 : i < n) : ∃ ad A0 c0, A = some ad ∧ w.cell? (ad.add i.toNat) = some (.slice A0 (rd_L9 xs i).length c0) ∧ (rd_L9 xs i).length ≤ c0 ∧ k37.C w A0 (rd_L9 xs i).length (rd_L9 xs i) := by
  obtain ⟨ad, c, e, _, hK, hc0⟩ := Kd.C_get h ([] : List S37) i h0 h1
  have hc : ∀ j u, c[j]? = some u → w.cell? (ad.add (i.toNat * 1 + j)) = some u := hc0
  obtain ⟨A0, c0, rfl, l0, g0⟩ := hK
  exact ⟨ad, A0, c0, e, by have hq := hc 0 _ rfl; rwa [Nat.mul_one, Nat.add_zero] at hq, l0, g0⟩

/-! #### struct type 39 -/
structure S39 where
  f0 : Int
  f1 : Int
def z39 : S39 := ⟨(0 : Int), (0 : Int)⟩
def k39 : Kd S39 := Kd.iso (Kd.pair (Kd.int .i64) (Kd.int .i64)) (fun x : S39 => (x.f0, x.f1))
theorem k39_heap : Kd.Heap k39 := Kd.heap_iso _ (Kd.heap_pair (Kd.heap_int .i64) (Kd.heap_int .i64))
theorem k39_open {w : World} {x : S39} {cs : List Value} (h : k39.K w x cs) : cs = [.int .i64 x.f0, .int .i64 x.f1] := by
  obtain ⟨_, _, rfl, rfl, rfl⟩ := h
  exact rfl
theorem k39_openM {w : World} {base : Nat} {ok : Nat → Prop} {x : S39} {cs : List Value} (h : k39.M w base ok x cs) : cs = [.int .i64 x.f0, .int .i64 x.f1] := by
  obtain ⟨_, _, rfl, rfl, rfl⟩ := h
  exact rfl
theorem k39_mk (w : World) (x : S39)  : k39.K w x [.int .i64 x.f0, .int .i64 x.f1] := ⟨[.int .i64 x.f0], [.int .i64 x.f1], rfl, rfl, rfl⟩
theorem k39_mkM (w : World) (base : Nat) (ok : Nat → Prop) (x : S39)  : k39.M w base ok x [.int .i64 x.f0, .int .i64 x.f1] := ⟨[.int .i64 x.f0], [.int .i64 x.f1], rfl, rfl, rfl⟩
theorem k39_mkF (W : World) (ok : Nat → Prop) (x : S39) : Kd.FK k39 W ok x [.int .i64 x.f0, .int .i64 x.f1] := fun W2 _ => k39_mk W2 x
def rd_T39 (xs : List S39) (i : Int) : S39 := xs.getD i.toNat z39
theorem at_T39 {w : World} {A : Option Addr} {n : Nat} {xs : List S39} (h : Kd.C k39 w A n xs) (i : Int) (h0 : 0 ≤ i) (h1 : i < n) : ∃ ad , A = some ad ∧ w.cell? (ad.add (i.toNat * 2)) = some (.int .i64 (rd_T39 xs i).f0) ∧ w.cell? ⟨(ad.add (i.toNat * 2)).block, (ad.add (i.toNat * 2)).off + 1, none⟩ = some (.int .i64 (rd_T39 xs i).f1) := by
  obtain ⟨ad, c, e, _, hK, hc0⟩ := Kd.C_get h z39 i h0 h1
  have hc : ∀ j u, c[j]? = some u → w.cell? (ad.add (i.toNat * 2 + j)) = some u := hc0
  obtain rfl := k39_open hK
  exact ⟨ad, e, hc 0 _ rfl, by rw [← add_field _ _ 1 (by omega)]; exact hc 1 _ rfl⟩

def rd_L11 (xs : List (List S39)) (i : Int) : (List S39) := xs.getD i.toNat ([] : List S39)
theorem at_L11 {w : World} {A : Option Addr} {n : Nat} {xs : List (List S39)} (h : Kd.C (Kd.slice 39 k39) w A n xs) (i : Int) (h0 : 0 ≤ i) (h1 : i < n) : ∃ ad A0 c0, A = some ad ∧ w.cell? (ad.add i.toNat) = some (.slice A0 (rd_L11 xs i).length c0) ∧ (rd_L11 xs i).length ≤ c0 ∧ k39.C w A0 (rd_L11 xs i).length (rd_L11 xs i) := by
  obtain ⟨ad, c, e, _, hK, hc0⟩ := Kd.C_get h ([] : List S39) i h0 h1
  have hc : ∀ j u, c[j]? = some u → w.cell? (ad.add (i.toNat * 1 + j)) = some u := hc0
  obtain ⟨A0, c0, rfl, l0, g0⟩ := hK
  exact ⟨ad, A0, c0, e, by have hq := hc 0 _ rfl; rwa [Nat.mul_one, Nat.add_zero] at hq, l0, g0⟩

def rd_L12 (xs : List (List Bool)) (i : Int) : (List Bool) := xs.getD i.toNat ([] : List Bool)
theorem at_L12 {w : World} {A : Option Addr} {n : Nat} {xs : List (List Bool)} (h : Kd.C (Kd.slice 4 Kd.bool) w A n xs) (i : Int) (h0 : 0 ≤ i) (h1 : i < n) : ∃ ad A0 c0, A = some ad ∧ w.cell? (ad.add i.toNat) = some (.slice A0 (rd_L12 xs i).length c0) ∧ (rd_L12 xs i).length ≤ c0 ∧ Kd.bool.C w A0 (rd_L12 xs i).length (rd_L12 xs i) := by
  obtain ⟨ad, c, e, _, hK, hc0⟩ := Kd.C_get h ([] : List Bool) i h0 h1
  have hc : ∀ j u, c[j]? = some u → w.cell? (ad.add (i.toNat * 1 + j)) = some u := hc0
  obtain ⟨A0, c0, rfl, l0, g0⟩ := hK
  exact ⟨ad, A0, c0, e, by have hq := hc 0 _ rfl; rwa [Nat.mul_one, Nat.add_zero] at hq, l0, g0⟩

/-! #### struct type 143 -/
structure S143 where
  f0 : Int
  f1 : (List ByteArray)
def z143 : S143 := ⟨(0 : Int), ([] : List ByteArray)⟩
def k143 : Kd S143 := Kd.iso (Kd.pair (Kd.int .i64) (Kd.slice 9 Kd.string)) (fun x : S143 => (x.f0, x.f1))
theorem k143_heap : Kd.Heap k143 := Kd.heap_iso _ (Kd.heap_pair (Kd.heap_int .i64) (Kd.heap_slice 9 Kd.heap_string))
theorem k143_open {w : World} {x : S143} {cs : List Value} (h : k143.K w x cs) : ∃ A1 c1, cs = [.int .i64 x.f0, .slice A1 x.f1.length c1] ∧ x.f1.length ≤ c1 ∧ Kd.string.C w A1 x.f1.length x.f1 := by
  obtain ⟨_, _, rfl, rfl, ⟨A1, c1, rfl, l1, g1⟩⟩ := h
  exact ⟨A1, c1, rfl, l1, g1⟩
theorem k143_openM {w : World} {base : Nat} {ok : Nat → Prop} {x : S143} {cs : List Value} (h : k143.M w base ok x cs) : ∃ v1, cs = [.int .i64 x.f0, v1] ∧ Kd.string.R 9 w base ok v1 x.f1 := by
  obtain ⟨_, _, rfl, rfl, ⟨v1, rfl, g1⟩⟩ := h
  exact ⟨v1, rfl, g1⟩
theorem k143_mk (w : World) (x : S143) {A1 : Option Addr} {c1 : Nat} (l1 : x.f1.length ≤ c1) (g1 : Kd.string.C w A1 x.f1.length x.f1) : k143.K w x [.int .i64 x.f0, .slice A1 x.f1.length c1] := ⟨[.int .i64 x.f0], [.slice A1 x.f1.length c1], rfl, rfl, ⟨A1, c1, rfl, l1, g1⟩⟩
theorem k143_mkM (w : World) (base : Nat) (ok : Nat → Prop) (x : S143) {v1 : Value} (g1 : Kd.string.R 9 w base ok v1 x.f1) : k143.M w base ok x [.int .i64 x.f0, v1] := ⟨[.int .i64 x.f0], [v1], rfl, rfl, ⟨v1, rfl, g1⟩⟩
theorem k143_openF {W : World} {ok : Nat → Prop} {x : S143} {cs : List Value} (h : Kd.FK k143 W ok x cs) : ∃ A1 c1, cs = [.int .i64 x.f0, .slice A1 x.f1.length c1] ∧ x.f1.length ≤ c1 ∧ Kd.F Kd.string W ok A1 x.f1.length x.f1 := by
  obtain ⟨A1, c1, rfl, l1, _⟩ := k143_open (Kd.FK_now h)
  exact ⟨A1, c1, rfl, l1, (fun W' hW => by obtain ⟨A1_, c1_, he, l1_, g1_⟩ := k143_open (h W' hW); injection (Option.some.inj (show some (Value.slice A1 x.f1.length c1) = some (Value.slice A1_ x.f1.length c1_) from congrArg (fun l => l[1]?) he)) with ha_ _ _; rw [ha_]; exact g1_)⟩
theorem k143_mkF (W : World) (ok : Nat → Prop) (x : S143) {A1 : Option Addr} {c1 : Nat} (l1 : x.f1.length ≤ c1) (g1 : Kd.F Kd.string W ok A1 x.f1.length x.f1) : Kd.FK k143 W ok x [.int .i64 x.f0, .slice A1 x.f1.length c1] := fun W2 hW => k143_mk W2 x l1 (g1 W2 hW)
def rd_T143 (xs : List S143) (i : Int) : S143 := xs.getD i.toNat z143
theorem at_T143 {w : World} {A : Option Addr} {n : Nat} {xs : List S143} (h : Kd.C k143 w A n xs) (i : Int) (h0 : 0 ≤ i) (h1 : i < n) : ∃ ad A1 c1, A = some ad ∧ w.cell? (ad.add (i.toNat * 2)) = some (.int .i64 (rd_T143 xs i).f0) ∧ w.cell? ⟨(ad.add (i.toNat * 2)).block, (ad.add (i.toNat * 2)).off + 1, none⟩ = some (.slice A1 (rd_T143 xs i).f1.length c1) ∧ (rd_T143 xs i).f1.length ≤ c1 ∧ Kd.string.C w A1 (rd_T143 xs i).f1.length (rd_T143 xs i).f1 := by
  obtain ⟨ad, c, e, _, hK, hc0⟩ := Kd.C_get h z143 i h0 h1
  have hc : ∀ j u, c[j]? = some u → w.cell? (ad.add (i.toNat * 2 + j)) = some u := hc0
  obtain ⟨A1, c1, rfl, l1, g1⟩ := k143_open hK
  exact ⟨ad, A1, c1, e, hc 0 _ rfl, by rw [← add_field _ _ 1 (by omega)]; exact hc 1 _ rfl, l1, g1⟩

def rd_L14 (xs : List (List S143)) (i : Int) : (List S143) := xs.getD i.toNat ([] : List S143)
theorem at_L14 {w : World} {A : Option Addr} {n : Nat} {xs : List (List S143)} (h : Kd.C (Kd.slice 143 k143) w A n xs) (i : Int) (h0 : 0 ≤ i) (h1 : i < n) : ∃ ad A0 c0, A = some ad ∧ w.cell? (ad.add i.toNat) = some (.slice A0 (rd_L14 xs i).length c0) ∧ (rd_L14 xs i).length ≤ c0 ∧ k143.C w A0 (rd_L14 xs i).length (rd_L14 xs i) := by
  obtain ⟨ad, c, e, _, hK, hc0⟩ := Kd.C_get h ([] : List S143) i h0 h1
  have hc : ∀ j u, c[j]? = some u → w.cell? (ad.add (i.toNat * 1 + j)) = some u := hc0
  obtain ⟨A0, c0, rfl, l0, g0⟩ := hK
  exact ⟨ad, A0, c0, e, by have hq := hc 0 _ rfl; rwa [Nat.mul_one, Nat.add_zero] at hq, l0, g0⟩

/-! #### struct type 144 -/
structure S144 where
  f0 : Int
  f1 : (List ByteArray)
def z144 : S144 := ⟨(0 : Int), ([] : List ByteArray)⟩
def k144 : Kd S144 := Kd.iso (Kd.pair (Kd.int .i64) (Kd.slice 9 Kd.string)) (fun x : S144 => (x.f0, x.f1))
theorem k144_heap : Kd.Heap k144 := Kd.heap_iso _ (Kd.heap_pair (Kd.heap_int .i64) (Kd.heap_slice 9 Kd.heap_string))
theorem k144_open {w : World} {x : S144} {cs : List Value} (h : k144.K w x cs) : ∃ A1 c1, cs = [.int .i64 x.f0, .slice A1 x.f1.length c1] ∧ x.f1.length ≤ c1 ∧ Kd.string.C w A1 x.f1.length x.f1 := by
  obtain ⟨_, _, rfl, rfl, ⟨A1, c1, rfl, l1, g1⟩⟩ := h
  exact ⟨A1, c1, rfl, l1, g1⟩
theorem k144_openM {w : World} {base : Nat} {ok : Nat → Prop} {x : S144} {cs : List Value} (h : k144.M w base ok x cs) : ∃ v1, cs = [.int .i64 x.f0, v1] ∧ Kd.string.R 9 w base ok v1 x.f1 := by
  obtain ⟨_, _, rfl, rfl, ⟨v1, rfl, g1⟩⟩ := h
  exact ⟨v1, rfl, g1⟩
theorem k144_mk (w : World) (x : S144) {A1 : Option Addr} {c1 : Nat} (l1 : x.f1.length ≤ c1) (g1 : Kd.string.C w A1 x.f1.length x.f1) : k144.K w x [.int .i64 x.f0, .slice A1 x.f1.length c1] := ⟨[.int .i64 x.f0], [.slice A1 x.f1.length c1], rfl, rfl, ⟨A1, c1, rfl, l1, g1⟩⟩
theorem k144_mkM (w : World) (base : Nat) (ok : Nat → Prop) (x : S144) {v1 : Value} (g1 : Kd.string.R 9 w base ok v1 x.f1) : k144.M w base ok x [.int .i64 x.f0, v1] := ⟨[.int .i64 x.f0], [v1], rfl, rfl, ⟨v1, rfl, g1⟩⟩
theorem k144_openF {W : World} {ok : Nat → Prop} {x : S144} {cs : List Value} (h : Kd.FK k144 W ok x cs) : ∃ A1 c1, cs = [.int .i64 x.f0, .slice A1 x.f1.length c1] ∧ x.f1.length ≤ c1 ∧ Kd.F Kd.string W ok A1 x.f1.length x.f1 := by
  obtain ⟨A1, c1, rfl, l1, _⟩ := k144_open (Kd.FK_now h)
  exact ⟨A1, c1, rfl, l1, (fun W' hW => by obtain ⟨A1_, c1_, he, l1_, g1_⟩ := k144_open (h W' hW); injection (Option.some.inj (show some (Value.slice A1 x.f1.length c1) = some (Value.slice A1_ x.f1.length c1_) from congrArg (fun l => l[1]?) he)) with ha_ _ _; rw [ha_]; exact g1_)⟩
theorem k144_mkF (W : World) (ok : Nat → Prop) (x : S144) {A1 : Option Addr} {c1 : Nat} (l1 : x.f1.length ≤ c1) (g1 : Kd.F Kd.string W ok A1 x.f1.length x.f1) : Kd.FK k144 W ok x [.int .i64 x.f0, .slice A1 x.f1.length c1] := fun W2 hW => k144_mk W2 x l1 (g1 W2 hW)
def rd_T144 (xs : List S144) (i : Int) : S144 := xs.getD i.toNat z144
theorem at_T144 {w : World} {A : Option Addr} {n : Nat} {xs : List S144} (h : Kd.C k144 w A n xs) (i : Int) (h0 : 0 ≤ i) (h1 : i < n) : ∃ ad A1 c1, A = some ad ∧ w.cell? (ad.add (i.toNat * 2)) = some (.int .i64 (rd_T144 xs i).f0) ∧ w.cell? ⟨(ad.add (i.toNat * 2)).block, (ad.add (i.toNat * 2)).off + 1, none⟩ = some (.slice A1 (rd_T144 xs i).f1.length c1) ∧ (rd_T144 xs i).f1.length ≤ c1 ∧ Kd.string.C w A1 (rd_T144 xs i).f1.length (rd_T144 xs i).f1 := by
  obtain ⟨ad, c, e, _, hK, hc0⟩ := Kd.C_get h z144 i h0 h1
  have hc : ∀ j u, c[j]? = some u → w.cell? (ad.add (i.toNat * 2 + j)) = some u := hc0
  obtain ⟨A1, c1, rfl, l1, g1⟩ := k144_open hK
  exact ⟨ad, A1, c1, e, hc 0 _ rfl, by rw [← add_field _ _ 1 (by omega)]; exact hc 1 _ rfl, l1, g1⟩

def rd_L16 (xs : List (List S144)) (i : Int) : (List S144) := xs.getD i.toNat ([] : List S144)
theorem at_L16 {w : World} {A : Option Addr} {n : Nat} {xs : List (List S144)} (h : Kd.C (Kd.slice 144 k144) w A n xs) (i : Int) (h0 : 0 ≤ i) (h1 : i < n) : ∃ ad A0 c0, A = some ad ∧ w.cell? (ad.add i.toNat) = some (.slice A0 (rd_L16 xs i).length c0) ∧ (rd_L16 xs i).length ≤ c0 ∧ k144.C w A0 (rd_L16 xs i).length (rd_L16 xs i) := by
  obtain ⟨ad, c, e, _, hK, hc0⟩ := Kd.C_get h ([] : List S144) i h0 h1
  have hc : ∀ j u, c[j]? = some u → w.cell? (ad.add (i.toNat * 1 + j)) = some u := hc0
  obtain ⟨A0, c0, rfl, l0, g0⟩ := hK
  exact ⟨ad, A0, c0, e, by have hq := hc 0 _ rfl; rwa [Nat.mul_one, Nat.add_zero] at hq, l0, g0⟩

/-! #### struct type 76 -/
structure S76 where
  f0 : Int
  f1 : Int
def z76 : S76 := ⟨(0 : Int), (0 : Int)⟩
def k76 : Kd S76 := Kd.iso (Kd.pair (Kd.int .i64) (Kd.int .i64)) (fun x : S76 => (x.f0, x.f1))
theorem k76_heap : Kd.Heap k76 := Kd.heap_iso _ (Kd.heap_pair (Kd.heap_int .i64) (Kd.heap_int .i64))
theorem k76_open {w : World} {x : S76} {cs : List Value} (h : k76.K w x cs) : cs = [.int .i64 x.f0, .int .i64 x.f1] := by
  obtain ⟨_, _, rfl, rfl, rfl⟩ := h
  exact rfl
theorem k76_openM {w : World} {base : Nat} {ok : Nat → Prop} {x : S76} {cs : List Value} (h : k76.M w base ok x cs) : cs = [.int .i64 x.f0, .int .i64 x.f1] := by
  obtain ⟨_, _, rfl, rfl, rfl⟩ := h
  exact rfl
theorem k76_mk (w : World) (x : S76)  : k76.K w x [.int .i64 x.f0, .int .i64 x.f1] := ⟨[.int .i64 x.f0], [.int .i64 x.f1], rfl, rfl, rfl⟩
theorem k76_mkM (w : World) (base : Nat) (ok : Nat → Prop) (x : S76)  : k76.M w base ok x [.int .i64 x.f0, .int .i64 x.f1] := ⟨[.int .i64 x.f0], [.int .i64 x.f1], rfl, rfl, rfl⟩
theorem k76_mkF (W : World) (ok : Nat → Prop) (x : S76) : Kd.FK k76 W ok x [.int .i64 x.f0, .int .i64 x.f1] := fun W2 _ => k76_mk W2 x
def rd_T76 (xs : List S76) (i : Int) : S76 := xs.getD i.toNat z76
theorem at_T76 {w : World} {A : Option Addr} {n : Nat} {xs : List S76} (h : Kd.C k76 w A n xs) (i : Int) (h0 : 0 ≤ i) (h1 : i < n) : ∃ ad , A = some ad ∧ w.cell? (ad.add (i.toNat * 2)) = some (.int .i64 (rd_T76 xs i).f0) ∧ w.cell? ⟨(ad.add (i.toNat * 2)).block, (ad.add (i.toNat * 2)).off + 1, none⟩ = some (.int .i64 (rd_T76 xs i).f1) := by
  obtain ⟨ad, c, e, _, hK, hc0⟩ := Kd.C_get h z76 i h0 h1
  have hc : ∀ j u, c[j]? = some u → w.cell? (ad.add (i.toNat * 2 + j)) = some u := hc0
  obtain rfl := k76_open hK
  exact ⟨ad, e, hc 0 _ rfl, by rw [← add_field _ _ 1 (by omega)]; exact hc 1 _ rfl⟩

/-! #### struct type 78 -/
structure S78 where
  f0 : Bool
  f1 : S76
  f2 : S76
  f3 : S76
def z78 : S78 := ⟨false, z76, z76, z76⟩
def k78 : Kd S78 := Kd.iso (Kd.pair Kd.bool (Kd.pair k76 (Kd.pair k76 k76))) (fun x : S78 => (x.f0, x.f1, x.f2, x.f3))
theorem k78_heap : Kd.Heap k78 := Kd.heap_iso _ (Kd.heap_pair Kd.heap_bool (Kd.heap_pair k76_heap (Kd.heap_pair k76_heap k76_heap)))
theorem k78_open {w : World} {x : S78} {cs : List Value} (h : k78.K w x cs) : cs = [.bool x.f0, .int .i64 x.f1.f0, .int .i64 x.f1.f1, .int .i64 x.f2.f0, .int .i64 x.f2.f1, .int .i64 x.f3.f0, .int .i64 x.f3.f1] := by
  obtain ⟨_, _, rfl, rfl, ⟨_, _, rfl, s1, ⟨_, _, rfl, s3, s5⟩⟩⟩ := h
  obtain rfl := k76_open s1
  obtain rfl := k76_open s3
  obtain rfl := k76_open s5
  exact rfl
theorem k78_openM {w : World} {base : Nat} {ok : Nat → Prop} {x : S78} {cs : List Value} (h : k78.M w base ok x cs) : cs = [.bool x.f0, .int .i64 x.f1.f0, .int .i64 x.f1.f1, .int .i64 x.f2.f0, .int .i64 x.f2.f1, .int .i64 x.f3.f0, .int .i64 x.f3.f1] := by
  obtain ⟨_, _, rfl, rfl, ⟨_, _, rfl, s1, ⟨_, _, rfl, s3, s5⟩⟩⟩ := h
  obtain rfl := k76_openM s1
  obtain rfl := k76_openM s3
  obtain rfl := k76_openM s5
  exact rfl
theorem k78_mk (w : World) (x : S78)  : k78.K w x [.bool x.f0, .int .i64 x.f1.f0, .int .i64 x.f1.f1, .int .i64 x.f2.f0, .int .i64 x.f2.f1, .int .i64 x.f3.f0, .int .i64 x.f3.f1] := ⟨[.bool x.f0], [.int .i64 x.f1.f0, .int .i64 x.f1.f1, .int .i64 x.f2.f0, .int .i64 x.f2.f1, .int .i64 x.f3.f0, .int .i64 x.f3.f1], rfl, rfl, ⟨[.int .i64 x.f1.f0, .int .i64 x.f1.f1], [.int .i64 x.f2.f0, .int .i64 x.f2.f1, .int .i64 x.f3.f0, .int .i64 x.f3.f1], rfl, (k76_mk w x.f1 ), ⟨[.int .i64 x.f2.f0, .int .i64 x.f2.f1], [.int .i64 x.f3.f0, .int .i64 x.f3.f1], rfl, (k76_mk w x.f2 ), (k76_mk w x.f3 )⟩⟩⟩
theorem k78_mkM (w : World) (base : Nat) (ok : Nat → Prop) (x : S78)  : k78.M w base ok x [.bool x.f0, .int .i64 x.f1.f0, .int .i64 x.f1.f1, .int .i64 x.f2.f0, .int .i64 x.f2.f1, .int .i64 x.f3.f0, .int .i64 x.f3.f1] := ⟨[.bool x.f0], [.int .i64 x.f1.f0, .int .i64 x.f1.f1, .int .i64 x.f2.f0, .int .i64 x.f2.f1, .int .i64 x.f3.f0, .int .i64 x.f3.f1], rfl, rfl, ⟨[.int .i64 x.f1.f0, .int .i64 x.f1.f1], [.int .i64 x.f2.f0, .int .i64 x.f2.f1, .int .i64 x.f3.f0, .int .i64 x.f3.f1], rfl, (k76_mkM w base ok x.f1 ), ⟨[.int .i64 x.f2.f0, .int .i64 x.f2.f1], [.int .i64 x.f3.f0, .int .i64 x.f3.f1], rfl, (k76_mkM w base ok x.f2 ), (k76_mkM w base ok x.f3 )⟩⟩⟩
theorem k78_mkF (W : World) (ok : Nat → Prop) (x : S78) : Kd.FK k78 W ok x [.bool x.f0, .int .i64 x.f1.f0, .int .i64 x.f1.f1, .int .i64 x.f2.f0, .int .i64 x.f2.f1, .int .i64 x.f3.f0, .int .i64 x.f3.f1] := fun W2 _ => k78_mk W2 x
def rd_T78 (xs : List S78) (i : Int) : S78 := xs.getD i.toNat z78
theorem at_T78 {w : World} {A : Option Addr} {n : Nat} {xs : List S78} (h : Kd.C k78 w A n xs) (i : Int) (h0 : 0 ≤ i) (h1 : i < n) : ∃ ad , A = some ad ∧ w.cell? (ad.add (i.toNat * 7)) = some (.bool (rd_T78 xs i).f0) ∧ w.cell? ⟨(ad.add (i.toNat * 7)).block, (ad.add (i.toNat * 7)).off + 1, none⟩ = some (.int .i64 (rd_T78 xs i).f1.f0) ∧ w.cell? ⟨(ad.add (i.toNat * 7)).block, (ad.add (i.toNat * 7)).off + 2, none⟩ = some (.int .i64 (rd_T78 xs i).f1.f1) ∧ w.cell? ⟨(ad.add (i.toNat * 7)).block, (ad.add (i.toNat * 7)).off + 3, none⟩ = some (.int .i64 (rd_T78 xs i).f2.f0) ∧ w.cell? ⟨(ad.add (i.toNat * 7)).block, (ad.add (i.toNat * 7)).off + 4, none⟩ = some (.int .i64 (rd_T78 xs i).f2.f1) ∧ w.cell? ⟨(ad.add (i.toNat * 7)).block, (ad.add (i.toNat * 7)).off + 5, none⟩ = some (.int .i64 (rd_T78 xs i).f3.f0) ∧ w.cell? ⟨(ad.add (i.toNat * 7)).block, (ad.add (i.toNat * 7)).off + 6, none⟩ = some (.int .i64 (rd_T78 xs i).f3.f1) := by
  obtain ⟨ad, c, e, _, hK, hc0⟩ := Kd.C_get h z78 i h0 h1
  have hc : ∀ j u, c[j]? = some u → w.cell? (ad.add (i.toNat * 7 + j)) = some u := hc0
  obtain rfl := k78_open hK
  exact ⟨ad, e, hc 0 _ rfl, by rw [← add_field _ _ 1 (by omega)]; exact hc 1 _ rfl, by rw [← add_field _ _ 2 (by omega)]; exact hc 2 _ rfl, by rw [← add_field _ _ 3 (by omega)]; exact hc 3 _ rfl, by rw [← add_field _ _ 4 (by omega)]; exact hc 4 _ rfl, by rw [← add_field _ _ 5 (by omega)]; exact hc 5 _ rfl, by rw [← add_field _ _ 6 (by omega)]; exact hc 6 _ rfl⟩

def rd_L19 (xs : List (List S78)) (i : Int) : (List S78) := xs.getD i.toNat ([] : List S78)
theorem at_L19 {w : World} {A : Option Addr} {n : Nat} {xs : List (List S78)} (h : Kd.C (Kd.slice 78 k78) w A n xs) (i : Int) (h0 : 0 ≤ i) (h1 : i < n) : ∃ ad A0 c0, A = some ad ∧ w.cell? (ad.add i.toNat) = some (.slice A0 (rd_L19 xs i).length c0) ∧ (rd_L19 xs i).length ≤ c0 ∧ k78.C w A0 (rd_L19 xs i).length (rd_L19 xs i) := by
  obtain ⟨ad, c, e, _, hK, hc0⟩ := Kd.C_get h ([] : List S78) i h0 h1
  have hc : ∀ j u, c[j]? = some u → w.cell? (ad.add (i.toNat * 1 + j)) = some u := hc0
  obtain ⟨A0, c0, rfl, l0, g0⟩ := hK
  exact ⟨ad, A0, c0, e, by have hq := hc 0 _ rfl; rwa [Nat.mul_one, Nat.add_zero] at hq, l0, g0⟩

/-! #### struct type 79 -/
structure S79 where
  f0 : Int
  f1 : Int
def z79 : S79 := ⟨(0 : Int), (0 : Int)⟩
def k79 : Kd S79 := Kd.iso (Kd.pair (Kd.int .i64) (Kd.int .i64)) (fun x : S79 => (x.f0, x.f1))
theorem k79_heap : Kd.Heap k79 := Kd.heap_iso _ (Kd.heap_pair (Kd.heap_int .i64) (Kd.heap_int .i64))
theorem k79_open {w : World} {x : S79} {cs : List Value} (h : k79.K w x cs) : cs = [.int .i64 x.f0, .int .i64 x.f1] := by
  obtain ⟨_, _, rfl, rfl, rfl⟩ := h
  exact rfl
theorem k79_openM {w : World} {base : Nat} {ok : Nat → Prop} {x : S79} {cs : List Value} (h : k79.M w base ok x cs) : cs = [.int .i64 x.f0, .int .i64 x.f1] := by
  obtain ⟨_, _, rfl, rfl, rfl⟩ := h
  exact rfl
theorem k79_mk (w : World) (x : S79)  : k79.K w x [.int .i64 x.f0, .int .i64 x.f1] := ⟨[.int .i64 x.f0], [.int .i64 x.f1], rfl, rfl, rfl⟩
theorem k79_mkM (w : World) (base : Nat) (ok : Nat → Prop) (x : S79)  : k79.M w base ok x [.int .i64 x.f0, .int .i64 x.f1] := ⟨[.int .i64 x.f0], [.int .i64 x.f1], rfl, rfl, rfl⟩
theorem k79_mkF (W : World) (ok : Nat → Prop) (x : S79) : Kd.FK k79 W ok x [.int .i64 x.f0, .int .i64 x.f1] := fun W2 _ => k79_mk W2 x
def rd_T79 (xs : List S79) (i : Int) : S79 := xs.getD i.toNat z79
theorem at_T79 {w : World} {A : Option Addr} {n : Nat} {xs : List S79} (h : Kd.C k79 w A n xs) (i : Int) (h0 : 0 ≤ i) (h1 : i < n) : ∃ ad , A = some ad ∧ w.cell? (ad.add (i.toNat * 2)) = some (.int .i64 (rd_T79 xs i).f0) ∧ w.cell? ⟨(ad.add (i.toNat * 2)).block, (ad.add (i.toNat * 2)).off + 1, none⟩ = some (.int .i64 (rd_T79 xs i).f1) := by
  obtain ⟨ad, c, e, _, hK, hc0⟩ := Kd.C_get h z79 i h0 h1
  have hc : ∀ j u, c[j]? = some u → w.cell? (ad.add (i.toNat * 2 + j)) = some u := hc0
  obtain rfl := k79_open hK
  exact ⟨ad, e, hc 0 _ rfl, by rw [← add_field _ _ 1 (by omega)]; exact hc 1 _ rfl⟩

/-! #### struct type 81 -/
structure S81 where
  f0 : Bool
  f1 : S79
  f2 : S79
  f3 : S79
def z81 : S81 := ⟨false, z79, z79, z79⟩
def k81 : Kd S81 := Kd.iso (Kd.pair Kd.bool (Kd.pair k79 (Kd.pair k79 k79))) (fun x : S81 => (x.f0, x.f1, x.f2, x.f3))
theorem k81_heap : Kd.Heap k81 := Kd.heap_iso _ (Kd.heap_pair Kd.heap_bool (Kd.heap_pair k79_heap (Kd.heap_pair k79_heap k79_heap)))
theorem k81_open {w : World} {x : S81} {cs : List Value} (h : k81.K w x cs) : cs = [.bool x.f0, .int .i64 x.f1.f0, .int .i64 x.f1.f1, .int .i64 x.f2.f0, .int .i64 x.f2.f1, .int .i64 x.f3.f0, .int .i64 x.f3.f1] := by
  obtain ⟨_, _, rfl, rfl, ⟨_, _, rfl, s1, ⟨_, _, rfl, s3, s5⟩⟩⟩ := h
  obtain rfl := k79_open s1
  obtain rfl := k79_open s3
  obtain rfl := k79_open s5
  exact rfl
theorem k81_openM {w : World} {base : Nat} {ok : Nat → Prop} {x : S81} {cs : List Value} (h : k81.M w base ok x cs) : cs = [.bool x.f0, .int .i64 x.f1.f0, .int .i64 x.f1.f1, .int .i64 x.f2.f0, .int .i64 x.f2.f1, .int .i64 x.f3.f0, .int .i64 x.f3.f1] := by
  obtain ⟨_, _, rfl, rfl, ⟨_, _, rfl, s1, ⟨_, _, rfl, s3, s5⟩⟩⟩ := h
  obtain rfl := k79_openM s1
  obtain rfl := k79_openM s3
  obtain rfl := k79_openM s5
  exact rfl
theorem k81_mk (w : World) (x : S81)  : k81.K w x [.bool x.f0, .int .i64 x.f1.f0, .int .i64 x.f1.f1, .int .i64 x.f2.f0, .int .i64 x.f2.f1, .int .i64 x.f3.f0, .int .i64 x.f3.f1] := ⟨[.bool x.f0], [.int .i64 x.f1.f0, .int .i64 x.f1.f1, .int .i64 x.f2.f0, .int .i64 x.f2.f1, .int .i64 x.f3.f0, .int .i64 x.f3.f1], rfl, rfl, ⟨[.int .i64 x.f1.f0, .int .i64 x.f1.f1], [.int .i64 x.f2.f0, .int .i64 x.f2.f1, .int .i64 x.f3.f0, .int .i64 x.f3.f1], rfl, (k79_mk w x.f1 ), ⟨[.int .i64 x.f2.f0, .int .i64 x.f2.f1], [.int .i64 x.f3.f0, .int .i64 x.f3.f1], rfl, (k79_mk w x.f2 ), (k79_mk w x.f3 )⟩⟩⟩
theorem k81_mkM (w : World) (base : Nat) (ok : Nat → Prop) (x : S81)  : k81.M w base ok x [.bool x.f0, .int .i64 x.f1.f0, .int .i64 x.f1.f1, .int .i64 x.f2.f0, .int .i64 x.f2.f1, .int .i64 x.f3.f0, .int .i64 x.f3.f1] := ⟨[.bool x.f0], [.int .i64 x.f1.f0, .int .i64 x.f1.f1, .int .i64 x.f2.f0, .int .i64 x.f2.f1, .int .i64 x.f3.f0, .int .i64 x.f3.f1], rfl, rfl, ⟨[.int .i64 x.f1.f0, .int .i64 x.f1.f1], [.int .i64 x.f2.f0, .int .i64 x.f2.f1, .int .i64 x.f3.f0, .int .i64 x.f3.f1], rfl, (k79_mkM w base ok x.f1 ), ⟨[.int .i64 x.f2.f0, .int .i64 x.f2.f1], [.int .i64 x.f3.f0, .int .i64 x.f3.f1], rfl, (k79_mkM w base ok x.f2 ), (k79_mkM w base ok x.f3 )⟩⟩⟩
theorem k81_mkF (W : World) (ok : Nat → Prop) (x : S81) : Kd.FK k81 W ok x [.bool x.f0, .int .i64 x.f1.f0, .int .i64 x.f1.f1, .int .i64 x.f2.f0, .int .i64 x.f2.f1, .int .i64 x.f3.f0, .int .i64 x.f3.f1] := fun W2 _ => k81_mk W2 x
def rd_T81 (xs : List S81) (i : Int) : S81 := xs.getD i.toNat z81
theorem at_T81 {w : World} {A : Option Addr} {n : Nat} {xs : List S81} (h : Kd.C k81 w A n xs) (i : Int) (h0 : 0 ≤ i) (h1 : i < n) : ∃ ad , A = some ad ∧ w.cell? (ad.add (i.toNat * 7)) = some (.bool (rd_T81 xs i).f0) ∧ w.cell? ⟨(ad.add (i.toNat * 7)).block, (ad.add (i.toNat * 7)).off + 1, none⟩ = some (.int .i64 (rd_T81 xs i).f1.f0) ∧ w.cell? ⟨(ad.add (i.toNat * 7)).block, (ad.add (i.toNat * 7)).off + 2, none⟩ = some (.int .i64 (rd_T81 xs i).f1.f1) ∧ w.cell? ⟨(ad.add (i.toNat * 7)).block, (ad.add (i.toNat * 7)).off + 3, none⟩ = some (.int .i64 (rd_T81 xs i).f2.f0) ∧ w.cell? ⟨(ad.add (i.toNat * 7)).block, (ad.add (i.toNat * 7)).off + 4, none⟩ = some (.int .i64 (rd_T81 xs i).f2.f1) ∧ w.cell? ⟨(ad.add (i.toNat * 7)).block, (ad.add (i.toNat * 7)).off + 5, none⟩ = some (.int .i64 (rd_T81 xs i).f3.f0) ∧ w.cell? ⟨(ad.add (i.toNat * 7)).block, (ad.add (i.toNat * 7)).off + 6, none⟩ = some (.int .i64 (rd_T81 xs i).f3.f1) := by
  obtain ⟨ad, c, e, _, hK, hc0⟩ := Kd.C_get h z81 i h0 h1
  have hc : ∀ j u, c[j]? = some u → w.cell? (ad.add (i.toNat * 7 + j)) = some u := hc0
  obtain rfl := k81_open hK
  exact ⟨ad, e, hc 0 _ rfl, by rw [← add_field _ _ 1 (by omega)]; exact hc 1 _ rfl, by rw [← add_field _ _ 2 (by omega)]; exact hc 2 _ rfl, by rw [← add_field _ _ 3 (by omega)]; exact hc 3 _ rfl, by rw [← add_field _ _ 4 (by omega)]; exact hc 4 _ rfl, by rw [← add_field _ _ 5 (by omega)]; exact hc 5 _ rfl, by rw [← add_field _ _ 6 (by omega)]; exact hc 6 _ rfl⟩

def rd_L22 (xs : List (List S81)) (i : Int) : (List S81) := xs.getD i.toNat ([] : List S81)
theorem at_L22 {w : World} {A : Option Addr} {n : Nat} {xs : List (List S81)} (h : Kd.C (Kd.slice 81 k81) w A n xs) (i : Int) (h0 : 0 ≤ i) (h1 : i < n) : ∃ ad A0 c0, A = some ad ∧ w.cell? (ad.add i.toNat) = some (.slice A0 (rd_L22 xs i).length c0) ∧ (rd_L22 xs i).length ≤ c0 ∧ k81.C w A0 (rd_L22 xs i).length (rd_L22 xs i) := by
  obtain ⟨ad, c, e, _, hK, hc0⟩ := Kd.C_get h ([] : List S81) i h0 h1
  have hc : ∀ j u, c[j]? = some u → w.cell? (ad.add (i.toNat * 1 + j)) = some u := hc0
  obtain ⟨A0, c0, rfl, l0, g0⟩ := hK
  exact ⟨ad, A0, c0, e, by have hq := hc 0 _ rfl; rwa [Nat.mul_one, Nat.add_zero] at hq, l0, g0⟩

/-! #### struct type 123 -/
structure S123 where
  f0 : ByteArray
  f1 : ByteArray
  f2 : ByteArray
  f3 : Bool
  f4 : ByteArray
  f5 : ByteArray
  f6 : ByteArray
  f7 : ByteArray
  f8 : Bool
def z123 : S123 := ⟨(⟨#[]⟩ : ByteArray), (⟨#[]⟩ : ByteArray), (⟨#[]⟩ : ByteArray), false, (⟨#[]⟩ : ByteArray), (⟨#[]⟩ : ByteArray), (⟨#[]⟩ : ByteArray), (⟨#[]⟩ : ByteArray), false⟩
def k123 : Kd S123 := Kd.iso (Kd.pair Kd.string (Kd.pair Kd.string (Kd.pair Kd.string (Kd.pair Kd.bool (Kd.pair Kd.string (Kd.pair Kd.string (Kd.pair Kd.string (Kd.pair Kd.string Kd.bool)))))))) (fun x : S123 => (x.f0, x.f1, x.f2, x.f3, x.f4, x.f5, x.f6, x.f7, x.f8))
theorem k123_heap : Kd.Heap k123 := Kd.heap_iso _ (Kd.heap_pair Kd.heap_string (Kd.heap_pair Kd.heap_string (Kd.heap_pair Kd.heap_string (Kd.heap_pair Kd.heap_bool (Kd.heap_pair Kd.heap_string (Kd.heap_pair Kd.heap_string (Kd.heap_pair Kd.heap_string (Kd.heap_pair Kd.heap_string Kd.heap_bool))))))))
theorem k123_open {w : World} {x : S123} {cs : List Value} (h : k123.K w x cs) : cs = [.string x.f0, .string x.f1, .string x.f2, .bool x.f3, .string x.f4, .string x.f5, .string x.f6, .string x.f7, .bool x.f8] := by
  obtain ⟨_, _, rfl, rfl, ⟨_, _, rfl, rfl, ⟨_, _, rfl, rfl, ⟨_, _, rfl, rfl, ⟨_, _, rfl, rfl, ⟨_, _, rfl, rfl, ⟨_, _, rfl, rfl, ⟨_, _, rfl, rfl, rfl⟩⟩⟩⟩⟩⟩⟩⟩ := h
  exact rfl
theorem k123_openM {w : World} {base : Nat} {ok : Nat → Prop} {x : S123} {cs : List Value} (h : k123.M w base ok x cs) : cs = [.string x.f0, .string x.f1, .string x.f2, .bool x.f3, .string x.f4, .string x.f5, .string x.f6, .string x.f7, .bool x.f8] := by
  obtain ⟨_, _, rfl, rfl, ⟨_, _, rfl, rfl, ⟨_, _, rfl, rfl, ⟨_, _, rfl, rfl, ⟨_, _, rfl, rfl, ⟨_, _, rfl, rfl, ⟨_, _, rfl, rfl, ⟨_, _, rfl, rfl, rfl⟩⟩⟩⟩⟩⟩⟩⟩ := h
  exact rfl
theorem k123_mk (w : World) (x : S123)  : k123.K w x [.string x.f0, .string x.f1, .string x.f2, .bool x.f3, .string x.f4, .string x.f5, .string x.f6, .string x.f7, .bool x.f8] := ⟨[.string x.f0], [.string x.f1, .string x.f2, .bool x.f3, .string x.f4, .string x.f5, .string x.f6, .string x.f7, .bool x.f8], rfl, rfl, ⟨[.string x.f1], [.string x.f2, .bool x.f3, .string x.f4, .string x.f5, .string x.f6, .string x.f7, .bool x.f8], rfl, rfl, ⟨[.string x.f2], [.bool x.f3, .string x.f4, .string x.f5, .string x.f6, .string x.f7, .bool x.f8], rfl, rfl, ⟨[.bool x.f3], [.string x.f4, .string x.f5, .string x.f6, .string x.f7, .bool x.f8], rfl, rfl, ⟨[.string x.f4], [.string x.f5, .string x.f6, .string x.f7, .bool x.f8], rfl, rfl, ⟨[.string x.f5], [.string x.f6, .string x.f7, .bool x.f8], rfl, rfl, ⟨[.string x.f6], [.string x.f7, .bool x.f8], rfl, rfl, ⟨[.string x.f7], [.bool x.f8], rfl, rfl, rfl⟩⟩⟩⟩⟩⟩⟩⟩
theorem k123_mkM (w : World) (base : Nat) (ok : Nat → Prop) (x : S123)  : k123.M w base ok x [.string x.f0, .string x.f1, .string x.f2, .bool x.f3, .string x.f4, .string x.f5, .string x.f6, .string x.f7, .bool x.f8] := ⟨[.string x.f0], [.string x.f1, .string x.f2, .bool x.f3, .string x.f4, .string x.f5, .string x.f6, .string x.f7, .bool x.f8], rfl, rfl, ⟨[.string x.f1], [.string x.f2, .bool x.f3, .string x.f4, .string x.f5, .string x.f6, .string x.f7, .bool x.f8], rfl, rfl, ⟨[.string x.f2], [.bool x.f3, .string x.f4, .string x.f5, .string x.f6, .string x.f7, .bool x.f8], rfl, rfl, ⟨[.bool x.f3], [.string x.f4, .string x.f5, .string x.f6, .string x.f7, .bool x.f8], rfl, rfl, ⟨[.string x.f4], [.string x.f5, .string x.f6, .string x.f7, .bool x.f8], rfl, rfl, ⟨[.string x.f5], [.string x.f6, .string x.f7, .bool x.f8], rfl, rfl, ⟨[.string x.f6], [.string x.f7, .bool x.f8], rfl, rfl, ⟨[.string x.f7], [.bool x.f8], rfl, rfl, rfl⟩⟩⟩⟩⟩⟩⟩⟩
theorem k123_mkF (W : World) (ok : Nat → Prop) (x : S123) : Kd.FK k123 W ok x [.string x.f0, .string x.f1, .string x.f2, .bool x.f3, .string x.f4, .string x.f5, .string x.f6, .string x.f7, .bool x.f8] := fun W2 _ => k123_mk W2 x
def rd_T123 (xs : List S123) (i : Int) : S123 := xs.getD i.toNat z123
theorem at_T123 {w : World} {A : Option Addr} {n : Nat} {xs : List S123} (h : Kd.C k123 w A n xs) (i : Int) (h0 : 0 ≤ i) (h1 : i < n) : ∃ ad , A = some ad ∧ w.cell? (ad.add (i.toNat * 9)) = some (.string (rd_T123 xs i).f0) ∧ w.cell? ⟨(ad.add (i.toNat * 9)).block, (ad.add (i.toNat * 9)).off + 1, none⟩ = some (.string (rd_T123 xs i).f1) ∧ w.cell? ⟨(ad.add (i.toNat * 9)).block, (ad.add (i.toNat * 9)).off + 2, none⟩ = some (.string (rd_T123 xs i).f2) ∧ w.cell? ⟨(ad.add (i.toNat * 9)).block, (ad.add (i.toNat * 9)).off + 3, none⟩ = some (.bool (rd_T123 xs i).f3) ∧ w.cell? ⟨(ad.add (i.toNat * 9)).block, (ad.add (i.toNat * 9)).off + 4, none⟩ = some (.string (rd_T123 xs i).f4) ∧ w.cell? ⟨(ad.add (i.toNat * 9)).block, (ad.add (i.toNat * 9)).off + 5, none⟩ = some (.string (rd_T123 xs i).f5) ∧ w.cell? ⟨(ad.add (i.toNat * 9)).block, (ad.add (i.toNat * 9)).off + 6, none⟩ = some (.string (rd_T123 xs i).f6) ∧ w.cell? ⟨(ad.add (i.toNat * 9)).block, (ad.add (i.toNat * 9)).off + 7, none⟩ = some (.string (rd_T123 xs i).f7) ∧ w.cell? ⟨(ad.add (i.toNat * 9)).block, (ad.add (i.toNat * 9)).off + 8, none⟩ = some (.bool (rd_T123 xs i).f8) := by
  obtain ⟨ad, c, e, _, hK, hc0⟩ := Kd.C_get h z123 i h0 h1
  have hc : ∀ j u, c[j]? = some u → w.cell? (ad.add (i.toNat * 9 + j)) = some u := hc0
  obtain rfl := k123_open hK
  exact ⟨ad, e, hc 0 _ rfl, by rw [← add_field _ _ 1 (by omega)]; exact hc 1 _ rfl, by rw [← add_field _ _ 2 (by omega)]; exact hc 2 _ rfl, by rw [← add_field _ _ 3 (by omega)]; exact hc 3 _ rfl, by rw [← add_field _ _ 4 (by omega)]; exact hc 4 _ rfl, by rw [← add_field _ _ 5 (by omega)]; exact hc 5 _ rfl, by rw [← add_field _ _ 6 (by omega)]; exact hc 6 _ rfl, by rw [← add_field _ _ 7 (by omega)]; exact hc 7 _ rfl, by rw [← add_field _ _ 8 (by omega)]; exact hc 8 _ rfl⟩

def rd_L24 (xs : List (List S123)) (i : Int) : (List S123) := xs.getD i.toNat ([] : List S123)
theorem at_L24 {w : World} {A : Option Addr} {n : Nat} {xs : List (List S123)} (h : Kd.C (Kd.slice 123 k123) w A n xs) (i : Int) (h0 : 0 ≤ i) (h1 : i < n) : ∃ ad A0 c0, A = some ad ∧ w.cell? (ad.add i.toNat) = some (.slice A0 (rd_L24 xs i).length c0) ∧ (rd_L24 xs i).length ≤ c0 ∧ k123.C w A0 (rd_L24 xs i).length (rd_L24 xs i) := by
  obtain ⟨ad, c, e, _, hK, hc0⟩ := Kd.C_get h ([] : List S123) i h0 h1
  have hc : ∀ j u, c[j]? = some u → w.cell? (ad.add (i.toNat * 1 + j)) = some u := hc0
  obtain ⟨A0, c0, rfl, l0, g0⟩ := hK
  exact ⟨ad, A0, c0, e, by have hq := hc 0 _ rfl; rwa [Nat.mul_one, Nat.add_zero] at hq, l0, g0⟩

/-! #### struct type 116 -/
structure S116 where
  f0 : ByteArray
  f1 : ByteArray
  f2 : ByteArray
def z116 : S116 := ⟨(⟨#[]⟩ : ByteArray), (⟨#[]⟩ : ByteArray), (⟨#[]⟩ : ByteArray)⟩
def k116 : Kd S116 := Kd.iso (Kd.pair Kd.string (Kd.pair Kd.string Kd.string)) (fun x : S116 => (x.f0, x.f1, x.f2))
theorem k116_heap : Kd.Heap k116 := Kd.heap_iso _ (Kd.heap_pair Kd.heap_string (Kd.heap_pair Kd.heap_string Kd.heap_string))
theorem k116_open {w : World} {x : S116} {cs : List Value} (h : k116.K w x cs) : cs = [.string x.f0, .string x.f1, .string x.f2] := by
  obtain ⟨_, _, rfl, rfl, ⟨_, _, rfl, rfl, rfl⟩⟩ := h
  exact rfl
theorem k116_openM {w : World} {base : Nat} {ok : Nat → Prop} {x : S116} {cs : List Value} (h : k116.M w base ok x cs) : cs = [.string x.f0, .string x.f1, .string x.f2] := by
  obtain ⟨_, _, rfl, rfl, ⟨_, _, rfl, rfl, rfl⟩⟩ := h
  exact rfl
theorem k116_mk (w : World) (x : S116)  : k116.K w x [.string x.f0, .string x.f1, .string x.f2] := ⟨[.string x.f0], [.string x.f1, .string x.f2], rfl, rfl, ⟨[.string x.f1], [.string x.f2], rfl, rfl, rfl⟩⟩
theorem k116_mkM (w : World) (base : Nat) (ok : Nat → Prop) (x : S116)  : k116.M w base ok x [.string x.f0, .string x.f1, .string x.f2] := ⟨[.string x.f0], [.string x.f1, .string x.f2], rfl, rfl, ⟨[.string x.f1], [.string x.f2], rfl, rfl, rfl⟩⟩
theorem k116_mkF (W : World) (ok : Nat → Prop) (x : S116) : Kd.FK k116 W ok x [.string x.f0, .string x.f1, .string x.f2] := fun W2 _ => k116_mk W2 x
def rd_T116 (xs : List S116) (i : Int) : S116 := xs.getD i.toNat z116
theorem at_T116 {w : World} {A : Option Addr} {n : Nat} {xs : List S116} (h : Kd.C k116 w A n xs) (i : Int) (h0 : 0 ≤ i) (h1 : i < n) : ∃ ad , A = some ad ∧ w.cell? (ad.add (i.toNat * 3)) = some (.string (rd_T116 xs i).f0) ∧ w.cell? ⟨(ad.add (i.toNat * 3)).block, (ad.add (i.toNat * 3)).off + 1, none⟩ = some (.string (rd_T116 xs i).f1) ∧ w.cell? ⟨(ad.add (i.toNat * 3)).block, (ad.add (i.toNat * 3)).off + 2, none⟩ = some (.string (rd_T116 xs i).f2) := by
  obtain ⟨ad, c, e, _, hK, hc0⟩ := Kd.C_get h z116 i h0 h1
  have hc : ∀ j u, c[j]? = some u → w.cell? (ad.add (i.toNat * 3 + j)) = some u := hc0
  obtain rfl := k116_open hK
  exact ⟨ad, e, hc 0 _ rfl, by rw [← add_field _ _ 1 (by omega)]; exact hc 1 _ rfl, by rw [← add_field _ _ 2 (by omega)]; exact hc 2 _ rfl⟩

/-! #### struct type 120 -/
structure S120 where
  f0 : S116
  f1 : Bool
  f2 : ByteArray
  f3 : ByteArray
  f4 : ByteArray
  f5 : ByteArray
  f6 : Bool
def z120 : S120 := ⟨z116, false, (⟨#[]⟩ : ByteArray), (⟨#[]⟩ : ByteArray), (⟨#[]⟩ : ByteArray), (⟨#[]⟩ : ByteArray), false⟩
def k120 : Kd S120 := Kd.iso (Kd.pair k116 (Kd.pair Kd.bool (Kd.pair Kd.string (Kd.pair Kd.string (Kd.pair Kd.string (Kd.pair Kd.string Kd.bool)))))) (fun x : S120 => (x.f0, x.f1, x.f2, x.f3, x.f4, x.f5, x.f6))
theorem k120_heap : Kd.Heap k120 := Kd.heap_iso _ (Kd.heap_pair k116_heap (Kd.heap_pair Kd.heap_bool (Kd.heap_pair Kd.heap_string (Kd.heap_pair Kd.heap_string (Kd.heap_pair Kd.heap_string (Kd.heap_pair Kd.heap_string Kd.heap_bool))))))
theorem k120_open {w : World} {x : S120} {cs : List Value} (h : k120.K w x cs) : cs = [.string x.f0.f0, .string x.f0.f1, .string x.f0.f2, .bool x.f1, .string x.f2, .string x.f3, .string x.f4, .string x.f5, .bool x.f6] := by
  obtain ⟨_, _, rfl, s0, ⟨_, _, rfl, rfl, ⟨_, _, rfl, rfl, ⟨_, _, rfl, rfl, ⟨_, _, rfl, rfl, ⟨_, _, rfl, rfl, rfl⟩⟩⟩⟩⟩⟩ := h
  obtain rfl := k116_open s0
  exact rfl
theorem k120_openM {w : World} {base : Nat} {ok : Nat → Prop} {x : S120} {cs : List Value} (h : k120.M w base ok x cs) : cs = [.string x.f0.f0, .string x.f0.f1, .string x.f0.f2, .bool x.f1, .string x.f2, .string x.f3, .string x.f4, .string x.f5, .bool x.f6] := by
  obtain ⟨_, _, rfl, s0, ⟨_, _, rfl, rfl, ⟨_, _, rfl, rfl, ⟨_, _, rfl, rfl, ⟨_, _, rfl, rfl, ⟨_, _, rfl, rfl, rfl⟩⟩⟩⟩⟩⟩ := h
  obtain rfl := k116_openM s0
  exact rfl
theorem k120_mk (w : World) (x : S120)  : k120.K w x [.string x.f0.f0, .string x.f0.f1, .string x.f0.f2, .bool x.f1, .string x.f2, .string x.f3, .string x.f4, .string x.f5, .bool x.f6] := ⟨[.string x.f0.f0, .string x.f0.f1, .string x.f0.f2], [.bool x.f1, .string x.f2, .string x.f3, .string x.f4, .string x.f5, .bool x.f6], rfl, (k116_mk w x.f0 ), ⟨[.bool x.f1], [.string x.f2, .string x.f3, .string x.f4, .string x.f5, .bool x.f6], rfl, rfl, ⟨[.string x.f2], [.string x.f3, .string x.f4, .string x.f5, .bool x.f6], rfl, rfl, ⟨[.string x.f3], [.string x.f4, .string x.f5, .bool x.f6], rfl, rfl, ⟨[.string x.f4], [.string x.f5, .bool x.f6], rfl, rfl, ⟨[.string x.f5], [.bool x.f6], rfl, rfl, rfl⟩⟩⟩⟩⟩⟩
theorem k120_mkM (w : World) (base : Nat) (ok : Nat → Prop) (x : S120)  : k120.M w base ok x [.string x.f0.f0, .string x.f0.f1, .string x.f0.f2, .bool x.f1, .string x.f2, .string x.f3, .string x.f4, .string x.f5, .bool x.f6] := ⟨[.string x.f0.f0, .string x.f0.f1, .string x.f0.f2], [.bool x.f1, .string x.f2, .string x.f3, .string x.f4, .string x.f5, .bool x.f6], rfl, (k116_mkM w base ok x.f0 ), ⟨[.bool x.f1], [.string x.f2, .string x.f3, .string x.f4, .string x.f5, .bool x.f6], rfl, rfl, ⟨[.string x.f2], [.string x.f3, .string x.f4, .string x.f5, .bool x.f6], rfl, rfl, ⟨[.string x.f3], [.string x.f4, .string x.f5, .bool x.f6], rfl, rfl, ⟨[.string x.f4], [.string x.f5, .bool x.f6], rfl, rfl, ⟨[.string x.f5], [.bool x.f6], rfl, rfl, rfl⟩⟩⟩⟩⟩⟩
theorem k120_mkF (W : World) (ok : Nat → Prop) (x : S120) : Kd.FK k120 W ok x [.string x.f0.f0, .string x.f0.f1, .string x.f0.f2, .bool x.f1, .string x.f2, .string x.f3, .string x.f4, .string x.f5, .bool x.f6] := fun W2 _ => k120_mk W2 x
def rd_T120 (xs : List S120) (i : Int) : S120 := xs.getD i.toNat z120
theorem at_T120 {w : World} {A : Option Addr} {n : Nat} {xs : List S120} (h : Kd.C k120 w A n xs) (i : Int) (h0 : 0 ≤ i) (h1 : i < n) : ∃ ad , A = some ad ∧ w.cell? (ad.add (i.toNat * 9)) = some (.string (rd_T120 xs i).f0.f0) ∧ w.cell? ⟨(ad.add (i.toNat * 9)).block, (ad.add (i.toNat * 9)).off + 1, none⟩ = some (.string (rd_T120 xs i).f0.f1) ∧ w.cell? ⟨(ad.add (i.toNat * 9)).block, (ad.add (i.toNat * 9)).off + 2, none⟩ = some (.string (rd_T120 xs i).f0.f2) ∧ w.cell? ⟨(ad.add (i.toNat * 9)).block, (ad.add (i.toNat * 9)).off + 3, none⟩ = some (.bool (rd_T120 xs i).f1) ∧ w.cell? ⟨(ad.add (i.toNat * 9)).block, (ad.add (i.toNat * 9)).off + 4, none⟩ = some (.string (rd_T120 xs i).f2) ∧ w.cell? ⟨(ad.add (i.toNat * 9)).block, (ad.add (i.toNat * 9)).off + 5, none⟩ = some (.string (rd_T120 xs i).f3) ∧ w.cell? ⟨(ad.add (i.toNat * 9)).block, (ad.add (i.toNat * 9)).off + 6, none⟩ = some (.string (rd_T120 xs i).f4) ∧ w.cell? ⟨(ad.add (i.toNat * 9)).block, (ad.add (i.toNat * 9)).off + 7, none⟩ = some (.string (rd_T120 xs i).f5) ∧ w.cell? ⟨(ad.add (i.toNat * 9)).block, (ad.add (i.toNat * 9)).off + 8, none⟩ = some (.bool (rd_T120 xs i).f6) := by
  obtain ⟨ad, c, e, _, hK, hc0⟩ := Kd.C_get h z120 i h0 h1
  have hc : ∀ j u, c[j]? = some u → w.cell? (ad.add (i.toNat * 9 + j)) = some u := hc0
  obtain rfl := k120_open hK
  exact ⟨ad, e, hc 0 _ rfl, by rw [← add_field _ _ 1 (by omega)]; exact hc 1 _ rfl, by rw [← add_field _ _ 2 (by omega)]; exact hc 2 _ rfl, by rw [← add_field _ _ 3 (by omega)]; exact hc 3 _ rfl, by rw [← add_field _ _ 4 (by omega)]; exact hc 4 _ rfl, by rw [← add_field _ _ 5 (by omega)]; exact hc 5 _ rfl, by rw [← add_field _ _ 6 (by omega)]; exact hc 6 _ rfl, by rw [← add_field _ _ 7 (by omega)]; exact hc 7 _ rfl, by rw [← add_field _ _ 8 (by omega)]; exact hc 8 _ rfl⟩

def rd_L27 (xs : List (List S120)) (i : Int) : (List S120) := xs.getD i.toNat ([] : List S120)
theorem at_L27 {w : World} {A : Option Addr} {n : Nat} {xs : List (List S120)} (h : Kd.C (Kd.slice 120 k120) w A n xs) (i : Int) (h0 : 0 ≤ i) (h1 : i < n) : ∃ ad A0 c0, A = some ad ∧ w.cell? (ad.add i.toNat) = some (.slice A0 (rd_L27 xs i).length c0) ∧ (rd_L27 xs i).length ≤ c0 ∧ k120.C w A0 (rd_L27 xs i).length (rd_L27 xs i) := by
  obtain ⟨ad, c, e, _, hK, hc0⟩ := Kd.C_get h ([] : List S120) i h0 h1
  have hc : ∀ j u, c[j]? = some u → w.cell? (ad.add (i.toNat * 1 + j)) = some u := hc0
  obtain ⟨A0, c0, rfl, l0, g0⟩ := hK
  exact ⟨ad, A0, c0, e, by have hq := hc 0 _ rfl; rwa [Nat.mul_one, Nat.add_zero] at hq, l0, g0⟩

/-! #### struct type 107 -/
structure S107 where
  f0 : (List ByteArray)
  f1 : (List ByteArray)
  f2 : (List ByteArray)
def z107 : S107 := ⟨([] : List ByteArray), ([] : List ByteArray), ([] : List ByteArray)⟩
def k107 : Kd S107 := Kd.iso (Kd.pair (Kd.slice 9 Kd.string) (Kd.pair (Kd.slice 9 Kd.string) (Kd.slice 9 Kd.string))) (fun x : S107 => (x.f0, x.f1, x.f2))
theorem k107_heap : Kd.Heap k107 := Kd.heap_iso _ (Kd.heap_pair (Kd.heap_slice 9 Kd.heap_string) (Kd.heap_pair (Kd.heap_slice 9 Kd.heap_string) (Kd.heap_slice 9 Kd.heap_string)))
theorem k107_open {w : World} {x : S107} {cs : List Value} (h : k107.K w x cs) : ∃ A0 c0 A1 c1 A2 c2, cs = [.slice A0 x.f0.length c0, .slice A1 x.f1.length c1, .slice A2 x.f2.length c2] ∧ x.f0.length ≤ c0 ∧ Kd.string.C w A0 x.f0.length x.f0 ∧ x.f1.length ≤ c1 ∧ Kd.string.C w A1 x.f1.length x.f1 ∧ x.f2.length ≤ c2 ∧ Kd.string.C w A2 x.f2.length x.f2 := by
  obtain ⟨_, _, rfl, ⟨A0, c0, rfl, l0, g0⟩, ⟨_, _, rfl, ⟨A1, c1, rfl, l1, g1⟩, ⟨A2, c2, rfl, l2, g2⟩⟩⟩ := h
  exact ⟨A0, c0, A1, c1, A2, c2, rfl, l0, g0, l1, g1, l2, g2⟩
theorem k107_openM {w : World} {base : Nat} {ok : Nat → Prop} {x : S107} {cs : List Value} (h : k107.M w base ok x cs) : ∃ v0 v1 v2, cs = [v0, v1, v2] ∧ Kd.string.R 9 w base ok v0 x.f0 ∧ Kd.string.R 9 w base ok v1 x.f1 ∧ Kd.string.R 9 w base ok v2 x.f2 := by
  obtain ⟨_, _, rfl, ⟨v0, rfl, g0⟩, ⟨_, _, rfl, ⟨v1, rfl, g1⟩, ⟨v2, rfl, g2⟩⟩⟩ := h
  exact ⟨v0, v1, v2, rfl, g0, g1, g2⟩
theorem k107_mk (w : World) (x : S107) {A0 : Option Addr} {c0 : Nat} (l0 : x.f0.length ≤ c0) (g0 : Kd.string.C w A0 x.f0.length x.f0) {A1 : Option Addr} {c1 : Nat} (l1 : x.f1.length ≤ c1) (g1 : Kd.string.C w A1 x.f1.length x.f1) {A2 : Option Addr} {c2 : Nat} (l2 : x.f2.length ≤ c2) (g2 : Kd.string.C w A2 x.f2.length x.f2) : k107.K w x [.slice A0 x.f0.length c0, .slice A1 x.f1.length c1, .slice A2 x.f2.length c2] := ⟨[.slice A0 x.f0.length c0], [.slice A1 x.f1.length c1, .slice A2 x.f2.length c2], rfl, ⟨A0, c0, rfl, l0, g0⟩, ⟨[.slice A1 x.f1.length c1], [.slice A2 x.f2.length c2], rfl, ⟨A1, c1, rfl, l1, g1⟩, ⟨A2, c2, rfl, l2, g2⟩⟩⟩
theorem k107_mkM (w : World) (base : Nat) (ok : Nat → Prop) (x : S107) {v0 : Value} (g0 : Kd.string.R 9 w base ok v0 x.f0) {v1 : Value} (g1 : Kd.string.R 9 w base ok v1 x.f1) {v2 : Value} (g2 : Kd.string.R 9 w base ok v2 x.f2) : k107.M w base ok x [v0, v1, v2] := ⟨[v0], [v1, v2], rfl, ⟨v0, rfl, g0⟩, ⟨[v1], [v2], rfl, ⟨v1, rfl, g1⟩, ⟨v2, rfl, g2⟩⟩⟩
theorem k107_openF {W : World} {ok : Nat → Prop} {x : S107} {cs : List Value} (h : Kd.FK k107 W ok x cs) : ∃ A0 c0 A1 c1 A2 c2, cs = [.slice A0 x.f0.length c0, .slice A1 x.f1.length c1, .slice A2 x.f2.length c2] ∧ x.f0.length ≤ c0 ∧ Kd.F Kd.string W ok A0 x.f0.length x.f0 ∧ x.f1.length ≤ c1 ∧ Kd.F Kd.string W ok A1 x.f1.length x.f1 ∧ x.f2.length ≤ c2 ∧ Kd.F Kd.string W ok A2 x.f2.length x.f2 := by
  obtain ⟨A0, c0, A1, c1, A2, c2, rfl, l0, _, l1, _, l2, _⟩ := k107_open (Kd.FK_now h)
  exact ⟨A0, c0, A1, c1, A2, c2, rfl, l0, (fun W' hW => by obtain ⟨A0_, c0_, A1_, c1_, A2_, c2_, he, l0_, g0_, l1_, g1_, l2_, g2_⟩ := k107_open (h W' hW); injection (Option.some.inj (show some (Value.slice A0 x.f0.length c0) = some (Value.slice A0_ x.f0.length c0_) from congrArg (fun l => l[0]?) he)) with ha_ _ _; rw [ha_]; exact g0_), l1, (fun W' hW => by obtain ⟨A0_, c0_, A1_, c1_, A2_, c2_, he, l0_, g0_, l1_, g1_, l2_, g2_⟩ := k107_open (h W' hW); injection (Option.some.inj (show some (Value.slice A1 x.f1.length c1) = some (Value.slice A1_ x.f1.length c1_) from congrArg (fun l => l[1]?) he)) with ha_ _ _; rw [ha_]; exact g1_), l2, (fun W' hW => by obtain ⟨A0_, c0_, A1_, c1_, A2_, c2_, he, l0_, g0_, l1_, g1_, l2_, g2_⟩ := k107_open (h W' hW); injection (Option.some.inj (show some (Value.slice A2 x.f2.length c2) = some (Value.slice A2_ x.f2.length c2_) from congrArg (fun l => l[2]?) he)) with ha_ _ _; rw [ha_]; exact g2_)⟩
theorem k107_mkF (W : World) (ok : Nat → Prop) (x : S107) {A0 : Option Addr} {c0 : Nat} (l0 : x.f0.length ≤ c0) (g0 : Kd.F Kd.string W ok A0 x.f0.length x.f0) {A1 : Option Addr} {c1 : Nat} (l1 : x.f1.length ≤ c1) (g1 : Kd.F Kd.string W ok A1 x.f1.length x.f1) {A2 : Option Addr} {c2 : Nat} (l2 : x.f2.length ≤ c2) (g2 : Kd.F Kd.string W ok A2 x.f2.length x.f2) : Kd.FK k107 W ok x [.slice A0 x.f0.length c0, .slice A1 x.f1.length c1, .slice A2 x.f2.length c2] := fun W2 hW => k107_mk W2 x l0 (g0 W2 hW) l1 (g1 W2 hW) l2 (g2 W2 hW)
def rd_T107 (xs : List S107) (i : Int) : S107 := xs.getD i.toNat z107
theorem at_T107 {w : World} {A : Option Addr} {n : Nat} {xs : List S107} (h : Kd.C k107 w A n xs) (i : Int) (h0 : 0 ≤ i) (h1 : i < n) : ∃ ad A0 c0 A1 c1 A2 c2, A = some ad ∧ w.cell? (ad.add (i.toNat * 3)) = some (.slice A0 (rd_T107 xs i).f0.length c0) ∧ w.cell? ⟨(ad.add (i.toNat * 3)).block, (ad.add (i.toNat * 3)).off + 1, none⟩ = some (.slice A1 (rd_T107 xs i).f1.length c1) ∧ w.cell? ⟨(ad.add (i.toNat * 3)).block, (ad.add (i.toNat * 3)).off + 2, none⟩ = some (.slice A2 (rd_T107 xs i).f2.length c2) ∧ (rd_T107 xs i).f0.length ≤ c0 ∧ Kd.string.C w A0 (rd_T107 xs i).f0.length (rd_T107 xs i).f0 ∧ (rd_T107 xs i).f1.length ≤ c1 ∧ Kd.string.C w A1 (rd_T107 xs i).f1.length (rd_T107 xs i).f1 ∧ (rd_T107 xs i).f2.length ≤ c2 ∧ Kd.string.C w A2 (rd_T107 xs i).f2.length (rd_T107 xs i).f2 := by
  obtain ⟨ad, c, e, _, hK, hc0⟩ := Kd.C_get h z107 i h0 h1
  have hc : ∀ j u, c[j]? = some u → w.cell? (ad.add (i.toNat * 3 + j)) = some u := hc0
  obtain ⟨A0, c0, A1, c1, A2, c2, rfl, l0, g0, l1, g1, l2, g2⟩ := k107_open hK
  exact ⟨ad, A0, c0, A1, c1, A2, c2, e, hc 0 _ rfl, by rw [← add_field _ _ 1 (by omega)]; exact hc 1 _ rfl, by rw [← add_field _ _ 2 (by omega)]; exact hc 2 _ rfl, l0, g0, l1, g1, l2, g2⟩

/-! #### struct type 112 -/
structure S112 where
  f0 : (List ByteArray)
  f1 : (List ByteArray)
  f2 : (List ByteArray)
def z112 : S112 := ⟨([] : List ByteArray), ([] : List ByteArray), ([] : List ByteArray)⟩
def k112 : Kd S112 := Kd.iso (Kd.pair (Kd.slice 9 Kd.string) (Kd.pair (Kd.slice 9 Kd.string) (Kd.slice 9 Kd.string))) (fun x : S112 => (x.f0, x.f1, x.f2))
theorem k112_heap : Kd.Heap k112 := Kd.heap_iso _ (Kd.heap_pair (Kd.heap_slice 9 Kd.heap_string) (Kd.heap_pair (Kd.heap_slice 9 Kd.heap_string) (Kd.heap_slice 9 Kd.heap_string)))
theorem k112_open {w : World} {x : S112} {cs : List Value} (h : k112.K w x cs) : ∃ A0 c0 A1 c1 A2 c2, cs = [.slice A0 x.f0.length c0, .slice A1 x.f1.length c1, .slice A2 x.f2.length c2] ∧ x.f0.length ≤ c0 ∧ Kd.string.C w A0 x.f0.length x.f0 ∧ x.f1.length ≤ c1 ∧ Kd.string.C w A1 x.f1.length x.f1 ∧ x.f2.length ≤ c2 ∧ Kd.string.C w A2 x.f2.length x.f2 := by
  obtain ⟨_, _, rfl, ⟨A0, c0, rfl, l0, g0⟩, ⟨_, _, rfl, ⟨A1, c1, rfl, l1, g1⟩, ⟨A2, c2, rfl, l2, g2⟩⟩⟩ := h
  exact ⟨A0, c0, A1, c1, A2, c2, rfl, l0, g0, l1, g1, l2, g2⟩
theorem k112_openM {w : World} {base : Nat} {ok : Nat → Prop} {x : S112} {cs : List Value} (h : k112.M w base ok x cs) : ∃ v0 v1 v2, cs = [v0, v1, v2] ∧ Kd.string.R 9 w base ok v0 x.f0 ∧ Kd.string.R 9 w base ok v1 x.f1 ∧ Kd.string.R 9 w base ok v2 x.f2 := by
  obtain ⟨_, _, rfl, ⟨v0, rfl, g0⟩, ⟨_, _, rfl, ⟨v1, rfl, g1⟩, ⟨v2, rfl, g2⟩⟩⟩ := h
  exact ⟨v0, v1, v2, rfl, g0, g1, g2⟩
theorem k112_mk (w : World) (x : S112) {A0 : Option Addr} {c0 : Nat} (l0 : x.f0.length ≤ c0) (g0 : Kd.string.C w A0 x.f0.length x.f0) {A1 : Option Addr} {c1 : Nat} (l1 : x.f1.length ≤ c1) (g1 : Kd.string.C w A1 x.f1.length x.f1) {A2 : Option Addr} {c2 : Nat} (l2 : x.f2.length ≤ c2) (g2 : Kd.string.C w A2 x.f2.length x.f2) : k112.K w x [.slice A0 x.f0.length c0, .slice A1 x.f1.length c1, .slice A2 x.f2.length c2] := ⟨[.slice A0 x.f0.length c0], [.slice A1 x.f1.length c1, .slice A2 x.f2.length c2], rfl, ⟨A0, c0, rfl, l0, g0⟩, ⟨[.slice A1 x.f1.length c1], [.slice A2 x.f2.length c2], rfl, ⟨A1, c1, rfl, l1, g1⟩, ⟨A2, c2, rfl, l2, g2⟩⟩⟩
theorem k112_mkM (w : World) (base : Nat) (ok : Nat → Prop) (x : S112) {v0 : Value} (g0 : Kd.string.R 9 w base ok v0 x.f0) {v1 : Value} (g1 : Kd.string.R 9 w base ok v1 x.f1) {v2 : Value} (g2 : Kd.string.R 9 w base ok v2 x.f2) : k112.M w base ok x [v0, v1, v2] := ⟨[v0], [v1, v2], rfl, ⟨v0, rfl, g0⟩, ⟨[v1], [v2], rfl, ⟨v1, rfl, g1⟩, ⟨v2, rfl, g2⟩⟩⟩
theorem k112_openF {W : World} {ok : Nat → Prop} {x : S112} {cs : List Value} (h : Kd.FK k112 W ok x cs) : ∃ A0 c0 A1 c1 A2 c2, cs = [.slice A0 x.f0.length c0, .slice A1 x.f1.length c1, .slice A2 x.f2.length c2] ∧ x.f0.length ≤ c0 ∧ Kd.F Kd.string W ok A0 x.f0.length x.f0 ∧ x.f1.length ≤ c1 ∧ Kd.F Kd.string W ok A1 x.f1.length x.f1 ∧ x.f2.length ≤ c2 ∧ Kd.F Kd.string W ok A2 x.f2.length x.f2 := by
  obtain ⟨A0, c0, A1, c1, A2, c2, rfl, l0, _, l1, _, l2, _⟩ := k112_open (Kd.FK_now h)
  exact ⟨A0, c0, A1, c1, A2, c2, rfl, l0, (fun W' hW => by obtain ⟨A0_, c0_, A1_, c1_, A2_, c2_, he, l0_, g0_, l1_, g1_, l2_, g2_⟩ := k112_open (h W' hW); injection (Option.some.inj (show some (Value.slice A0 x.f0.length c0) = some (Value.slice A0_ x.f0.length c0_) from congrArg (fun l => l[0]?) he)) with ha_ _ _; rw [ha_]; exact g0_), l1, (fun W' hW => by obtain ⟨A0_, c0_, A1_, c1_, A2_, c2_, he, l0_, g0_, l1_, g1_, l2_, g2_⟩ := k112_open (h W' hW); injection (Option.some.inj (show some (Value.slice A1 x.f1.length c1) = some (Value.slice A1_ x.f1.length c1_) from congrArg (fun l => l[1]?) he)) with ha_ _ _; rw [ha_]; exact g1_), l2, (fun W' hW => by obtain ⟨A0_, c0_, A1_, c1_, A2_, c2_, he, l0_, g0_, l1_, g1_, l2_, g2_⟩ := k112_open (h W' hW); injection (Option.some.inj (show some (Value.slice A2 x.f2.length c2) = some (Value.slice A2_ x.f2.length c2_) from congrArg (fun l => l[2]?) he)) with ha_ _ _; rw [ha_]; exact g2_)⟩
theorem k112_mkF (W : World) (ok : Nat → Prop) (x : S112) {A0 : Option Addr} {c0 : Nat} (l0 : x.f0.length ≤ c0) (g0 : Kd.F Kd.string W ok A0 x.f0.length x.f0) {A1 : Option Addr} {c1 : Nat} (l1 : x.f1.length ≤ c1) (g1 : Kd.F Kd.string W ok A1 x.f1.length x.f1) {A2 : Option Addr} {c2 : Nat} (l2 : x.f2.length ≤ c2) (g2 : Kd.F Kd.string W ok A2 x.f2.length x.f2) : Kd.FK k112 W ok x [.slice A0 x.f0.length c0, .slice A1 x.f1.length c1, .slice A2 x.f2.length c2] := fun W2 hW => k112_mk W2 x l0 (g0 W2 hW) l1 (g1 W2 hW) l2 (g2 W2 hW)
def rd_T112 (xs : List S112) (i : Int) : S112 := xs.getD i.toNat z112
theorem at_T112 {w : World} {A : Option Addr} {n : Nat} {xs : List S112} (h : Kd.C k112 w A n xs) (i : Int) (h0 : 0 ≤ i) (h1 : i < n) : ∃ ad A0 c0 A1 c1 A2 c2, A = some ad ∧ w.cell? (ad.add (i.toNat * 3)) = some (.slice A0 (rd_T112 xs i).f0.length c0) ∧ w.cell? ⟨(ad.add (i.toNat * 3)).block, (ad.add (i.toNat * 3)).off + 1, none⟩ = some (.slice A1 (rd_T112 xs i).f1.length c1) ∧ w.cell? ⟨(ad.add (i.toNat * 3)).block, (ad.add (i.toNat * 3)).off + 2, none⟩ = some (.slice A2 (rd_T112 xs i).f2.length c2) ∧ (rd_T112 xs i).f0.length ≤ c0 ∧ Kd.string.C w A0 (rd_T112 xs i).f0.length (rd_T112 xs i).f0 ∧ (rd_T112 xs i).f1.length ≤ c1 ∧ Kd.string.C w A1 (rd_T112 xs i).f1.length (rd_T112 xs i).f1 ∧ (rd_T112 xs i).f2.length ≤ c2 ∧ Kd.string.C w A2 (rd_T112 xs i).f2.length (rd_T112 xs i).f2 := by
  obtain ⟨ad, c, e, _, hK, hc0⟩ := Kd.C_get h z112 i h0 h1
  have hc : ∀ j u, c[j]? = some u → w.cell? (ad.add (i.toNat * 3 + j)) = some u := hc0
  obtain ⟨A0, c0, A1, c1, A2, c2, rfl, l0, g0, l1, g1, l2, g2⟩ := k112_open hK
  exact ⟨ad, A0, c0, A1, c1, A2, c2, e, hc 0 _ rfl, by rw [← add_field _ _ 1 (by omega)]; exact hc 1 _ rfl, by rw [← add_field _ _ 2 (by omega)]; exact hc 2 _ rfl, l0, g0, l1, g1, l2, g2⟩

/-! #### struct type 130 -/
structure S130 where
  f0 : (List Int)
  f1 : (List Int)
  f2 : (List S39)
def z130 : S130 := ⟨([] : List Int), ([] : List Int), ([] : List S39)⟩
def k130 : Kd S130 := Kd.iso (Kd.pair (Kd.slice 3 (Kd.int .i64)) (Kd.pair (Kd.slice 3 (Kd.int .i64)) (Kd.slice 39 k39))) (fun x : S130 => (x.f0, x.f1, x.f2))
theorem k130_heap : Kd.Heap k130 := Kd.heap_iso _ (Kd.heap_pair (Kd.heap_slice 3 (Kd.heap_int .i64)) (Kd.heap_pair (Kd.heap_slice 3 (Kd.heap_int .i64)) (Kd.heap_slice 39 k39_heap)))
theorem k130_open {w : World} {x : S130} {cs : List Value} (h : k130.K w x cs) : ∃ A0 c0 A1 c1 A2 c2, cs = [.slice A0 x.f0.length c0, .slice A1 x.f1.length c1, .slice A2 x.f2.length c2] ∧ x.f0.length ≤ c0 ∧ (Kd.int .i64).C w A0 x.f0.length x.f0 ∧ x.f1.length ≤ c1 ∧ (Kd.int .i64).C w A1 x.f1.length x.f1 ∧ x.f2.length ≤ c2 ∧ k39.C w A2 x.f2.length x.f2 := by
  obtain ⟨_, _, rfl, ⟨A0, c0, rfl, l0, g0⟩, ⟨_, _, rfl, ⟨A1, c1, rfl, l1, g1⟩, ⟨A2, c2, rfl, l2, g2⟩⟩⟩ := h
  exact ⟨A0, c0, A1, c1, A2, c2, rfl, l0, g0, l1, g1, l2, g2⟩
theorem k130_openM {w : World} {base : Nat} {ok : Nat → Prop} {x : S130} {cs : List Value} (h : k130.M w base ok x cs) : ∃ v0 v1 v2, cs = [v0, v1, v2] ∧ (Kd.int .i64).R 3 w base ok v0 x.f0 ∧ (Kd.int .i64).R 3 w base ok v1 x.f1 ∧ k39.R 39 w base ok v2 x.f2 := by
  obtain ⟨_, _, rfl, ⟨v0, rfl, g0⟩, ⟨_, _, rfl, ⟨v1, rfl, g1⟩, ⟨v2, rfl, g2⟩⟩⟩ := h
  exact ⟨v0, v1, v2, rfl, g0, g1, g2⟩
theorem k130_mk (w : World) (x : S130) {A0 : Option Addr} {c0 : Nat} (l0 : x.f0.length ≤ c0) (g0 : (Kd.int .i64).C w A0 x.f0.length x.f0) {A1 : Option Addr} {c1 : Nat} (l1 : x.f1.length ≤ c1) (g1 : (Kd.int .i64).C w A1 x.f1.length x.f1) {A2 : Option Addr} {c2 : Nat} (l2 : x.f2.length ≤ c2) (g2 : k39.C w A2 x.f2.length x.f2) : k130.K w x [.slice A0 x.f0.length c0, .slice A1 x.f1.length c1, .slice A2 x.f2.length c2] := ⟨[.slice A0 x.f0.length c0], [.slice A1 x.f1.length c1, .slice A2 x.f2.length c2], rfl, ⟨A0, c0, rfl, l0, g0⟩, ⟨[.slice A1 x.f1.length c1], [.slice A2 x.f2.length c2], rfl, ⟨A1, c1, rfl, l1, g1⟩, ⟨A2, c2, rfl, l2, g2⟩⟩⟩
theorem k130_mkM (w : World) (base : Nat) (ok : Nat → Prop) (x : S130) {v0 : Value} (g0 : (Kd.int .i64).R 3 w base ok v0 x.f0) {v1 : Value} (g1 : (Kd.int .i64).R 3 w base ok v1 x.f1) {v2 : Value} (g2 : k39.R 39 w base ok v2 x.f2) : k130.M w base ok x [v0, v1, v2] := ⟨[v0], [v1, v2], rfl, ⟨v0, rfl, g0⟩, ⟨[v1], [v2], rfl, ⟨v1, rfl, g1⟩, ⟨v2, rfl, g2⟩⟩⟩
theorem k130_openF {W : World} {ok : Nat → Prop} {x : S130} {cs : List Value} (h : Kd.FK k130 W ok x cs) : ∃ A0 c0 A1 c1 A2 c2, cs = [.slice A0 x.f0.length c0, .slice A1 x.f1.length c1, .slice A2 x.f2.length c2] ∧ x.f0.length ≤ c0 ∧ Kd.F (Kd.int .i64) W ok A0 x.f0.length x.f0 ∧ x.f1.length ≤ c1 ∧ Kd.F (Kd.int .i64) W ok A1 x.f1.length x.f1 ∧ x.f2.length ≤ c2 ∧ Kd.F k39 W ok A2 x.f2.length x.f2 := by
  obtain ⟨A0, c0, A1, c1, A2, c2, rfl, l0, _, l1, _, l2, _⟩ := k130_open (Kd.FK_now h)
  exact ⟨A0, c0, A1, c1, A2, c2, rfl, l0, (fun W' hW => by obtain ⟨A0_, c0_, A1_, c1_, A2_, c2_, he, l0_, g0_, l1_, g1_, l2_, g2_⟩ := k130_open (h W' hW); injection (Option.some.inj (show some (Value.slice A0 x.f0.length c0) = some (Value.slice A0_ x.f0.length c0_) from congrArg (fun l => l[0]?) he)) with ha_ _ _; rw [ha_]; exact g0_), l1, (fun W' hW => by obtain ⟨A0_, c0_, A1_, c1_, A2_, c2_, he, l0_, g0_, l1_, g1_, l2_, g2_⟩ := k130_open (h W' hW); injection (Option.some.inj (show some (Value.slice A1 x.f1.length c1) = some (Value.slice A1_ x.f1.length c1_) from congrArg (fun l => l[1]?) he)) with ha_ _ _; rw [ha_]; exact g1_), l2, (fun W' hW => by obtain ⟨A0_, c0_, A1_, c1_, A2_, c2_, he, l0_, g0_, l1_, g1_, l2_, g2_⟩ := k130_open (h W' hW); injection (Option.some.inj (show some (Value.slice A2 x.f2.length c2) = some (Value.slice A2_ x.f2.length c2_) from congrArg (fun l => l[2]?) he)) with ha_ _ _; rw [ha_]; exact g2_)⟩
theorem k130_mkF (W : World) (ok : Nat → Prop) (x : S130) {A0 : Option Addr} {c0 : Nat} (l0 : x.f0.length ≤ c0) (g0 : Kd.F (Kd.int .i64) W ok A0 x.f0.length x.f0) {A1 : Option Addr} {c1 : Nat} (l1 : x.f1.length ≤ c1) (g1 : Kd.F (Kd.int .i64) W ok A1 x.f1.length x.f1) {A2 : Option Addr} {c2 : Nat} (l2 : x.f2.length ≤ c2) (g2 : Kd.F k39 W ok A2 x.f2.length x.f2) : Kd.FK k130 W ok x [.slice A0 x.f0.length c0, .slice A1 x.f1.length c1, .slice A2 x.f2.length c2] := fun W2 hW => k130_mk W2 x l0 (g0 W2 hW) l1 (g1 W2 hW) l2 (g2 W2 hW)
def rd_T130 (xs : List S130) (i : Int) : S130 := xs.getD i.toNat z130
theorem at_T130 {w : World} {A : Option Addr} {n : Nat} {xs : List S130} (h : Kd.C k130 w A n xs) (i : Int) (h0 : 0 ≤ i) (h1 : i < n) : ∃ ad A0 c0 A1 c1 A2 c2, A = some ad ∧ w.cell? (ad.add (i.toNat * 3)) = some (.slice A0 (rd_T130 xs i).f0.length c0) ∧ w.cell? ⟨(ad.add (i.toNat * 3)).block, (ad.add (i.toNat * 3)).off + 1, none⟩ = some (.slice A1 (rd_T130 xs i).f1.length c1) ∧ w.cell? ⟨(ad.add (i.toNat * 3)).block, (ad.add (i.toNat * 3)).off + 2, none⟩ = some (.slice A2 (rd_T130 xs i).f2.length c2) ∧ (rd_T130 xs i).f0.length ≤ c0 ∧ (Kd.int .i64).C w A0 (rd_T130 xs i).f0.length (rd_T130 xs i).f0 ∧ (rd_T130 xs i).f1.length ≤ c1 ∧ (Kd.int .i64).C w A1 (rd_T130 xs i).f1.length (rd_T130 xs i).f1 ∧ (rd_T130 xs i).f2.length ≤ c2 ∧ k39.C w A2 (rd_T130 xs i).f2.length (rd_T130 xs i).f2 := by
  obtain ⟨ad, c, e, _, hK, hc0⟩ := Kd.C_get h z130 i h0 h1
  have hc : ∀ j u, c[j]? = some u → w.cell? (ad.add (i.toNat * 3 + j)) = some u := hc0
  obtain ⟨A0, c0, A1, c1, A2, c2, rfl, l0, g0, l1, g1, l2, g2⟩ := k130_open hK
  exact ⟨ad, A0, c0, A1, c1, A2, c2, e, hc 0 _ rfl, by rw [← add_field _ _ 1 (by omega)]; exact hc 1 _ rfl, by rw [← add_field _ _ 2 (by omega)]; exact hc 2 _ rfl, l0, g0, l1, g1, l2, g2⟩

/-! #### struct type 133 -/
structure S133 where
  f0 : Int
  f1 : Int
  f2 : Int
  f3 : Int
def z133 : S133 := ⟨(0 : Int), (0 : Int), (0 : Int), (0 : Int)⟩
def k133 : Kd S133 := Kd.iso (Kd.pair (Kd.int .i64) (Kd.pair (Kd.int .i64) (Kd.pair (Kd.int .i64) (Kd.int .i64)))) (fun x : S133 => (x.f0, x.f1, x.f2, x.f3))
theorem k133_heap : Kd.Heap k133 := Kd.heap_iso _ (Kd.heap_pair (Kd.heap_int .i64) (Kd.heap_pair (Kd.heap_int .i64) (Kd.heap_pair (Kd.heap_int .i64) (Kd.heap_int .i64))))
theorem k133_open {w : World} {x : S133} {cs : List Value} (h : k133.K w x cs) : cs = [.int .i64 x.f0, .int .i64 x.f1, .int .i64 x.f2, .int .i64 x.f3] := by
  obtain ⟨_, _, rfl, rfl, ⟨_, _, rfl, rfl, ⟨_, _, rfl, rfl, rfl⟩⟩⟩ := h
  exact rfl
theorem k133_openM {w : World} {base : Nat} {ok : Nat → Prop} {x : S133} {cs : List Value} (h : k133.M w base ok x cs) : cs = [.int .i64 x.f0, .int .i64 x.f1, .int .i64 x.f2, .int .i64 x.f3] := by
  obtain ⟨_, _, rfl, rfl, ⟨_, _, rfl, rfl, ⟨_, _, rfl, rfl, rfl⟩⟩⟩ := h
  exact rfl
theorem k133_mk (w : World) (x : S133)  : k133.K w x [.int .i64 x.f0, .int .i64 x.f1, .int .i64 x.f2, .int .i64 x.f3] := ⟨[.int .i64 x.f0], [.int .i64 x.f1, .int .i64 x.f2, .int .i64 x.f3], rfl, rfl, ⟨[.int .i64 x.f1], [.int .i64 x.f2, .int .i64 x.f3], rfl, rfl, ⟨[.int .i64 x.f2], [.int .i64 x.f3], rfl, rfl, rfl⟩⟩⟩
theorem k133_mkM (w : World) (base : Nat) (ok : Nat → Prop) (x : S133)  : k133.M w base ok x [.int .i64 x.f0, .int .i64 x.f1, .int .i64 x.f2, .int .i64 x.f3] := ⟨[.int .i64 x.f0], [.int .i64 x.f1, .int .i64 x.f2, .int .i64 x.f3], rfl, rfl, ⟨[.int .i64 x.f1], [.int .i64 x.f2, .int .i64 x.f3], rfl, rfl, ⟨[.int .i64 x.f2], [.int .i64 x.f3], rfl, rfl, rfl⟩⟩⟩
theorem k133_mkF (W : World) (ok : Nat → Prop) (x : S133) : Kd.FK k133 W ok x [.int .i64 x.f0, .int .i64 x.f1, .int .i64 x.f2, .int .i64 x.f3] := fun W2 _ => k133_mk W2 x
def rd_T133 (xs : List S133) (i : Int) : S133 := xs.getD i.toNat z133
theorem at_T133 {w : World} {A : Option Addr} {n : Nat} {xs : List S133} (h : Kd.C k133 w A n xs) (i : Int) (h0 : 0 ≤ i) (h1 : i < n) : ∃ ad , A = some ad ∧ w.cell? (ad.add (i.toNat * 4)) = some (.int .i64 (rd_T133 xs i).f0) ∧ w.cell? ⟨(ad.add (i.toNat * 4)).block, (ad.add (i.toNat * 4)).off + 1, none⟩ = some (.int .i64 (rd_T133 xs i).f1) ∧ w.cell? ⟨(ad.add (i.toNat * 4)).block, (ad.add (i.toNat * 4)).off + 2, none⟩ = some (.int .i64 (rd_T133 xs i).f2) ∧ w.cell? ⟨(ad.add (i.toNat * 4)).block, (ad.add (i.toNat * 4)).off + 3, none⟩ = some (.int .i64 (rd_T133 xs i).f3) := by
  obtain ⟨ad, c, e, _, hK, hc0⟩ := Kd.C_get h z133 i h0 h1
  have hc : ∀ j u, c[j]? = some u → w.cell? (ad.add (i.toNat * 4 + j)) = some u := hc0
  obtain rfl := k133_open hK
  exact ⟨ad, e, hc 0 _ rfl, by rw [← add_field _ _ 1 (by omega)]; exact hc 1 _ rfl, by rw [← add_field _ _ 2 (by omega)]; exact hc 2 _ rfl, by rw [← add_field _ _ 3 (by omega)]; exact hc 3 _ rfl⟩

def rd_L32 (xs : List (List (List Int))) (i : Int) : (List (List Int)) := xs.getD i.toNat ([] : List (List Int))
theorem at_L32 {w : World} {A : Option Addr} {n : Nat} {xs : List (List (List Int))} (h : Kd.C (Kd.slice 22 (Kd.slice 3 (Kd.int .i64))) w A n xs) (i : Int) (h0 : 0 ≤ i) (h1 : i < n) : ∃ ad A0 c0, A = some ad ∧ w.cell? (ad.add i.toNat) = some (.slice A0 (rd_L32 xs i).length c0) ∧ (rd_L32 xs i).length ≤ c0 ∧ (Kd.slice 3 (Kd.int .i64)).C w A0 (rd_L32 xs i).length (rd_L32 xs i) := by
  obtain ⟨ad, c, e, _, hK, hc0⟩ := Kd.C_get h ([] : List (List Int)) i h0 h1
  have hc : ∀ j u, c[j]? = some u → w.cell? (ad.add (i.toNat * 1 + j)) = some u := hc0
  obtain ⟨A0, c0, rfl, l0, g0⟩ := hK
  exact ⟨ad, A0, c0, e, by have hq := hc 0 _ rfl; rwa [Nat.mul_one, Nat.add_zero] at hq, l0, g0⟩

/-! #### struct type 137 -/
structure S137 where
  f0 : (List S143)
def z137 : S137 := ⟨([] : List S143)⟩
def k137 : Kd S137 := Kd.iso (Kd.slice 143 k143) (fun x : S137 => x.f0)
theorem k137_heap : Kd.Heap k137 := Kd.heap_iso _ (Kd.heap_slice 143 k143_heap)
theorem k137_open {w : World} {x : S137} {cs : List Value} (h : k137.K w x cs) : ∃ A0 c0, cs = [.slice A0 x.f0.length c0] ∧ x.f0.length ≤ c0 ∧ k143.C w A0 x.f0.length x.f0 := by
  obtain ⟨A0, c0, rfl, l0, g0⟩ := h
  exact ⟨A0, c0, rfl, l0, g0⟩
theorem k137_openM {w : World} {base : Nat} {ok : Nat → Prop} {x : S137} {cs : List Value} (h : k137.M w base ok x cs) : ∃ v0, cs = [v0] ∧ k143.R 143 w base ok v0 x.f0 := by
  obtain ⟨v0, rfl, g0⟩ := h
  exact ⟨v0, rfl, g0⟩
theorem k137_mk (w : World) (x : S137) {A0 : Option Addr} {c0 : Nat} (l0 : x.f0.length ≤ c0) (g0 : k143.C w A0 x.f0.length x.f0) : k137.K w x [.slice A0 x.f0.length c0] := ⟨A0, c0, rfl, l0, g0⟩
theorem k137_mkM (w : World) (base : Nat) (ok : Nat → Prop) (x : S137) {v0 : Value} (g0 : k143.R 143 w base ok v0 x.f0) : k137.M w base ok x [v0] := ⟨v0, rfl, g0⟩
theorem k137_openF {W : World} {ok : Nat → Prop} {x : S137} {cs : List Value} (h : Kd.FK k137 W ok x cs) : ∃ A0 c0, cs = [.slice A0 x.f0.length c0] ∧ x.f0.length ≤ c0 ∧ Kd.F k143 W ok A0 x.f0.length x.f0 := by
  obtain ⟨A0, c0, rfl, l0, _⟩ := k137_open (Kd.FK_now h)
  exact ⟨A0, c0, rfl, l0, (fun W' hW => by obtain ⟨A0_, c0_, he, l0_, g0_⟩ := k137_open (h W' hW); injection (Option.some.inj (show some (Value.slice A0 x.f0.length c0) = some (Value.slice A0_ x.f0.length c0_) from congrArg (fun l => l[0]?) he)) with ha_ _ _; rw [ha_]; exact g0_)⟩
theorem k137_mkF (W : World) (ok : Nat → Prop) (x : S137) {A0 : Option Addr} {c0 : Nat} (l0 : x.f0.length ≤ c0) (g0 : Kd.F k143 W ok A0 x.f0.length x.f0) : Kd.FK k137 W ok x [.slice A0 x.f0.length c0] := fun W2 hW => k137_mk W2 x l0 (g0 W2 hW)
def rd_T137 (xs : List S137) (i : Int) : S137 := xs.getD i.toNat z137
theorem at_T137 {w : World} {A : Option Addr} {n : Nat} {xs : List S137} (h : Kd.C k137 w A n xs) (i : Int) (h0 : 0 ≤ i) (h1 : i < n) : ∃ ad A0 c0, A = some ad ∧ w.cell? (ad.add i.toNat) = some (.slice A0 (rd_T137 xs i).f0.length c0) ∧ (rd_T137 xs i).f0.length ≤ c0 ∧ k143.C w A0 (rd_T137 xs i).f0.length (rd_T137 xs i).f0 := by
  obtain ⟨ad, c, e, _, hK, hc0⟩ := Kd.C_get h z137 i h0 h1
  have hc : ∀ j u, c[j]? = some u → w.cell? (ad.add (i.toNat * 1 + j)) = some u := hc0
  obtain ⟨A0, c0, rfl, l0, g0⟩ := k137_open hK
  exact ⟨ad, A0, c0, e, by have hq := hc 0 _ rfl; rwa [Nat.mul_one, Nat.add_zero] at hq, l0, g0⟩

def rd_L34 (xs : List (List (List ByteArray))) (i : Int) : (List (List ByteArray)) := xs.getD i.toNat ([] : List (List ByteArray))
theorem at_L34 {w : World} {A : Option Addr} {n : Nat} {xs : List (List (List ByteArray))} (h : Kd.C (Kd.slice 27 (Kd.slice 9 Kd.string)) w A n xs) (i : Int) (h0 : 0 ≤ i) (h1 : i < n) : ∃ ad A0 c0, A = some ad ∧ w.cell? (ad.add i.toNat) = some (.slice A0 (rd_L34 xs i).length c0) ∧ (rd_L34 xs i).length ≤ c0 ∧ (Kd.slice 9 Kd.string).C w A0 (rd_L34 xs i).length (rd_L34 xs i) := by
  obtain ⟨ad, c, e, _, hK, hc0⟩ := Kd.C_get h ([] : List (List ByteArray)) i h0 h1
  have hc : ∀ j u, c[j]? = some u → w.cell? (ad.add (i.toNat * 1 + j)) = some u := hc0
  obtain ⟨A0, c0, rfl, l0, g0⟩ := hK
  exact ⟨ad, A0, c0, e, by have hq := hc 0 _ rfl; rwa [Nat.mul_one, Nat.add_zero] at hq, l0, g0⟩

/-! #### struct type 150 -/
structure S150 where
  f0 : (List Int)
  f1 : (List Int)
  f2 : Int
  f3 : Int
  f4 : Int
def z150 : S150 := ⟨([] : List Int), ([] : List Int), (0 : Int), (0 : Int), (0 : Int)⟩
def k150 : Kd S150 := Kd.iso (Kd.pair (Kd.slice 3 (Kd.int .i64)) (Kd.pair (Kd.slice 3 (Kd.int .i64)) (Kd.pair (Kd.int .i64) (Kd.pair (Kd.int .i64) (Kd.int .i64))))) (fun x : S150 => (x.f0, x.f1, x.f2, x.f3, x.f4))
theorem k150_heap : Kd.Heap k150 := Kd.heap_iso _ (Kd.heap_pair (Kd.heap_slice 3 (Kd.heap_int .i64)) (Kd.heap_pair (Kd.heap_slice 3 (Kd.heap_int .i64)) (Kd.heap_pair (Kd.heap_int .i64) (Kd.heap_pair (Kd.heap_int .i64) (Kd.heap_int .i64)))))
theorem k150_open {w : World} {x : S150} {cs : List Value} (h : k150.K w x cs) : ∃ A0 c0 A1 c1, cs = [.slice A0 x.f0.length c0, .slice A1 x.f1.length c1, .int .i64 x.f2, .int .i64 x.f3, .int .i64 x.f4] ∧ x.f0.length ≤ c0 ∧ (Kd.int .i64).C w A0 x.f0.length x.f0 ∧ x.f1.length ≤ c1 ∧ (Kd.int .i64).C w A1 x.f1.length x.f1 := by
  obtain ⟨_, _, rfl, ⟨A0, c0, rfl, l0, g0⟩, ⟨_, _, rfl, ⟨A1, c1, rfl, l1, g1⟩, ⟨_, _, rfl, rfl, ⟨_, _, rfl, rfl, rfl⟩⟩⟩⟩ := h
  exact ⟨A0, c0, A1, c1, rfl, l0, g0, l1, g1⟩
theorem k150_openM {w : World} {base : Nat} {ok : Nat → Prop} {x : S150} {cs : List Value} (h : k150.M w base ok x cs) : ∃ v0 v1, cs = [v0, v1, .int .i64 x.f2, .int .i64 x.f3, .int .i64 x.f4] ∧ (Kd.int .i64).R 3 w base ok v0 x.f0 ∧ (Kd.int .i64).R 3 w base ok v1 x.f1 := by
  obtain ⟨_, _, rfl, ⟨v0, rfl, g0⟩, ⟨_, _, rfl, ⟨v1, rfl, g1⟩, ⟨_, _, rfl, rfl, ⟨_, _, rfl, rfl, rfl⟩⟩⟩⟩ := h
  exact ⟨v0, v1, rfl, g0, g1⟩
theorem k150_mk (w : World) (x : S150) {A0 : Option Addr} {c0 : Nat} (l0 : x.f0.length ≤ c0) (g0 : (Kd.int .i64).C w A0 x.f0.length x.f0) {A1 : Option Addr} {c1 : Nat} (l1 : x.f1.length ≤ c1) (g1 : (Kd.int .i64).C w A1 x.f1.length x.f1) : k150.K w x [.slice A0 x.f0.length c0, .slice A1 x.f1.length c1, .int .i64 x.f2, .int .i64 x.f3, .int .i64 x.f4] := ⟨[.slice A0 x.f0.length c0], [.slice A1 x.f1.length c1, .int .i64 x.f2, .int .i64 x.f3, .int .i64 x.f4], rfl, ⟨A0, c0, rfl, l0, g0⟩, ⟨[.slice A1 x.f1.length c1], [.int .i64 x.f2, .int .i64 x.f3, .int .i64 x.f4], rfl, ⟨A1, c1, rfl, l1, g1⟩, ⟨[.int .i64 x.f2], [.int .i64 x.f3, .int .i64 x.f4], rfl, rfl, ⟨[.int .i64 x.f3], [.int .i64 x.f4], rfl, rfl, rfl⟩⟩⟩⟩
theorem k150_mkM (w : World) (base : Nat) (ok : Nat → Prop) (x : S150) {v0 : Value} (g0 : (Kd.int .i64).R 3 w base ok v0 x.f0) {v1 : Value} (g1 : (Kd.int .i64).R 3 w base ok v1 x.f1) : k150.M w base ok x [v0, v1, .int .i64 x.f2, .int .i64 x.f3, .int .i64 x.f4] := ⟨[v0], [v1, .int .i64 x.f2, .int .i64 x.f3, .int .i64 x.f4], rfl, ⟨v0, rfl, g0⟩, ⟨[v1], [.int .i64 x.f2, .int .i64 x.f3, .int .i64 x.f4], rfl, ⟨v1, rfl, g1⟩, ⟨[.int .i64 x.f2], [.int .i64 x.f3, .int .i64 x.f4], rfl, rfl, ⟨[.int .i64 x.f3], [.int .i64 x.f4], rfl, rfl, rfl⟩⟩⟩⟩
theorem k150_openF {W : World} {ok : Nat → Prop} {x : S150} {cs : List Value} (h : Kd.FK k150 W ok x cs) : ∃ A0 c0 A1 c1, cs = [.slice A0 x.f0.length c0, .slice A1 x.f1.length c1, .int .i64 x.f2, .int .i64 x.f3, .int .i64 x.f4] ∧ x.f0.length ≤ c0 ∧ Kd.F (Kd.int .i64) W ok A0 x.f0.length x.f0 ∧ x.f1.length ≤ c1 ∧ Kd.F (Kd.int .i64) W ok A1 x.f1.length x.f1 := by
  obtain ⟨A0, c0, A1, c1, rfl, l0, _, l1, _⟩ := k150_open (Kd.FK_now h)
  exact ⟨A0, c0, A1, c1, rfl, l0, (fun W' hW => by obtain ⟨A0_, c0_, A1_, c1_, he, l0_, g0_, l1_, g1_⟩ := k150_open (h W' hW); injection (Option.some.inj (show some (Value.slice A0 x.f0.length c0) = some (Value.slice A0_ x.f0.length c0_) from congrArg (fun l => l[0]?) he)) with ha_ _ _; rw [ha_]; exact g0_), l1, (fun W' hW => by obtain ⟨A0_, c0_, A1_, c1_, he, l0_, g0_, l1_, g1_⟩ := k150_open (h W' hW); injection (Option.some.inj (show some (Value.slice A1 x.f1.length c1) = some (Value.slice A1_ x.f1.length c1_) from congrArg (fun l => l[1]?) he)) with ha_ _ _; rw [ha_]; exact g1_)⟩
theorem k150_mkF (W : World) (ok : Nat → Prop) (x : S150) {A0 : Option Addr} {c0 : Nat} (l0 : x.f0.length ≤ c0) (g0 : Kd.F (Kd.int .i64) W ok A0 x.f0.length x.f0) {A1 : Option Addr} {c1 : Nat} (l1 : x.f1.length ≤ c1) (g1 : Kd.F (Kd.int .i64) W ok A1 x.f1.length x.f1) : Kd.FK k150 W ok x [.slice A0 x.f0.length c0, .slice A1 x.f1.length c1, .int .i64 x.f2, .int .i64 x.f3, .int .i64 x.f4] := fun W2 hW => k150_mk W2 x l0 (g0 W2 hW) l1 (g1 W2 hW)
def rd_T150 (xs : List S150) (i : Int) : S150 := xs.getD i.toNat z150
theorem at_T150 {w : World} {A : Option Addr} {n : Nat} {xs : List S150} (h : Kd.C k150 w A n xs) (i : Int) (h0 : 0 ≤ i) (h1 : i < n) : ∃ ad A0 c0 A1 c1, A = some ad ∧ w.cell? (ad.add (i.toNat * 5)) = some (.slice A0 (rd_T150 xs i).f0.length c0) ∧ w.cell? ⟨(ad.add (i.toNat * 5)).block, (ad.add (i.toNat * 5)).off + 1, none⟩ = some (.slice A1 (rd_T150 xs i).f1.length c1) ∧ w.cell? ⟨(ad.add (i.toNat * 5)).block, (ad.add (i.toNat * 5)).off + 2, none⟩ = some (.int .i64 (rd_T150 xs i).f2) ∧ w.cell? ⟨(ad.add (i.toNat * 5)).block, (ad.add (i.toNat * 5)).off + 3, none⟩ = some (.int .i64 (rd_T150 xs i).f3) ∧ w.cell? ⟨(ad.add (i.toNat * 5)).block, (ad.add (i.toNat * 5)).off + 4, none⟩ = some (.int .i64 (rd_T150 xs i).f4) ∧ (rd_T150 xs i).f0.length ≤ c0 ∧ (Kd.int .i64).C w A0 (rd_T150 xs i).f0.length (rd_T150 xs i).f0 ∧ (rd_T150 xs i).f1.length ≤ c1 ∧ (Kd.int .i64).C w A1 (rd_T150 xs i).f1.length (rd_T150 xs i).f1 := by
  obtain ⟨ad, c, e, _, hK, hc0⟩ := Kd.C_get h z150 i h0 h1
  have hc : ∀ j u, c[j]? = some u → w.cell? (ad.add (i.toNat * 5 + j)) = some u := hc0
  obtain ⟨A0, c0, A1, c1, rfl, l0, g0, l1, g1⟩ := k150_open hK
  exact ⟨ad, A0, c0, A1, c1, e, hc 0 _ rfl, by rw [← add_field _ _ 1 (by omega)]; exact hc 1 _ rfl, by rw [← add_field _ _ 2 (by omega)]; exact hc 2 _ rfl, by rw [← add_field _ _ 3 (by omega)]; exact hc 3 _ rfl, by rw [← add_field _ _ 4 (by omega)]; exact hc 4 _ rfl, l0, g0, l1, g1⟩

def rd_L36 (xs : List (List Int)) (i : Int) : (List Int) := xs.getD i.toNat ([] : List Int)
theorem at_L36 {w : World} {A : Option Addr} {n : Nat} {xs : List (List Int)} (h : Kd.C (Kd.slice 5 (Kd.int .u8)) w A n xs) (i : Int) (h0 : 0 ≤ i) (h1 : i < n) : ∃ ad A0 c0, A = some ad ∧ w.cell? (ad.add i.toNat) = some (.slice A0 (rd_L36 xs i).length c0) ∧ (rd_L36 xs i).length ≤ c0 ∧ (Kd.int .u8).C w A0 (rd_L36 xs i).length (rd_L36 xs i) := by
  obtain ⟨ad, c, e, _, hK, hc0⟩ := Kd.C_get h ([] : List Int) i h0 h1
  have hc : ∀ j u, c[j]? = some u → w.cell? (ad.add (i.toNat * 1 + j)) = some u := hc0
  obtain ⟨A0, c0, rfl, l0, g0⟩ := hK
  exact ⟨ad, A0, c0, e, by have hq := hc 0 _ rfl; rwa [Nat.mul_one, Nat.add_zero] at hq, l0, g0⟩

/-! #### struct type 181 -/
structure S181 where
  f0 : S116
  f1 : Int
  f2 : Int
  f3 : (List S120)
def z181 : S181 := ⟨z116, (0 : Int), (0 : Int), ([] : List S120)⟩
def k181 : Kd S181 := Kd.iso (Kd.pair k116 (Kd.pair (Kd.int .i64) (Kd.pair (Kd.int .i64) (Kd.slice 120 k120)))) (fun x : S181 => (x.f0, x.f1, x.f2, x.f3))
theorem k181_heap : Kd.Heap k181 := Kd.heap_iso _ (Kd.heap_pair k116_heap (Kd.heap_pair (Kd.heap_int .i64) (Kd.heap_pair (Kd.heap_int .i64) (Kd.heap_slice 120 k120_heap))))
theorem k181_open {w : World} {x : S181} {cs : List Value} (h : k181.K w x cs) : ∃ A5 c5, cs = [.string x.f0.f0, .string x.f0.f1, .string x.f0.f2, .int .i64 x.f1, .int .i64 x.f2, .slice A5 x.f3.length c5] ∧ x.f3.length ≤ c5 ∧ k120.C w A5 x.f3.length x.f3 := by
  obtain ⟨_, _, rfl, s0, ⟨_, _, rfl, rfl, ⟨_, _, rfl, rfl, ⟨A5, c5, rfl, l5, g5⟩⟩⟩⟩ := h
  obtain rfl := k116_open s0
  exact ⟨A5, c5, rfl, l5, g5⟩
theorem k181_openM {w : World} {base : Nat} {ok : Nat → Prop} {x : S181} {cs : List Value} (h : k181.M w base ok x cs) : ∃ v5, cs = [.string x.f0.f0, .string x.f0.f1, .string x.f0.f2, .int .i64 x.f1, .int .i64 x.f2, v5] ∧ k120.R 120 w base ok v5 x.f3 := by
  obtain ⟨_, _, rfl, s0, ⟨_, _, rfl, rfl, ⟨_, _, rfl, rfl, ⟨v5, rfl, g5⟩⟩⟩⟩ := h
  obtain rfl := k116_openM s0
  exact ⟨v5, rfl, g5⟩
theorem k181_mk (w : World) (x : S181) {A5 : Option Addr} {c5 : Nat} (l5 : x.f3.length ≤ c5) (g5 : k120.C w A5 x.f3.length x.f3) : k181.K w x [.string x.f0.f0, .string x.f0.f1, .string x.f0.f2, .int .i64 x.f1, .int .i64 x.f2, .slice A5 x.f3.length c5] := ⟨[.string x.f0.f0, .string x.f0.f1, .string x.f0.f2], [.int .i64 x.f1, .int .i64 x.f2, .slice A5 x.f3.length c5], rfl, (k116_mk w x.f0 ), ⟨[.int .i64 x.f1], [.int .i64 x.f2, .slice A5 x.f3.length c5], rfl, rfl, ⟨[.int .i64 x.f2], [.slice A5 x.f3.length c5], rfl, rfl, ⟨A5, c5, rfl, l5, g5⟩⟩⟩⟩
theorem k181_mkM (w : World) (base : Nat) (ok : Nat → Prop) (x : S181) {v5 : Value} (g5 : k120.R 120 w base ok v5 x.f3) : k181.M w base ok x [.string x.f0.f0, .string x.f0.f1, .string x.f0.f2, .int .i64 x.f1, .int .i64 x.f2, v5] := ⟨[.string x.f0.f0, .string x.f0.f1, .string x.f0.f2], [.int .i64 x.f1, .int .i64 x.f2, v5], rfl, (k116_mkM w base ok x.f0 ), ⟨[.int .i64 x.f1], [.int .i64 x.f2, v5], rfl, rfl, ⟨[.int .i64 x.f2], [v5], rfl, rfl, ⟨v5, rfl, g5⟩⟩⟩⟩
theorem k181_openF {W : World} {ok : Nat → Prop} {x : S181} {cs : List Value} (h : Kd.FK k181 W ok x cs) : ∃ A5 c5, cs = [.string x.f0.f0, .string x.f0.f1, .string x.f0.f2, .int .i64 x.f1, .int .i64 x.f2, .slice A5 x.f3.length c5] ∧ x.f3.length ≤ c5 ∧ Kd.F k120 W ok A5 x.f3.length x.f3 := by
  obtain ⟨A5, c5, rfl, l5, _⟩ := k181_open (Kd.FK_now h)
  exact ⟨A5, c5, rfl, l5, (fun W' hW => by obtain ⟨A5_, c5_, he, l5_, g5_⟩ := k181_open (h W' hW); injection (Option.some.inj (show some (Value.slice A5 x.f3.length c5) = some (Value.slice A5_ x.f3.length c5_) from congrArg (fun l => l[5]?) he)) with ha_ _ _; rw [ha_]; exact g5_)⟩
theorem k181_mkF (W : World) (ok : Nat → Prop) (x : S181) {A5 : Option Addr} {c5 : Nat} (l5 : x.f3.length ≤ c5) (g5 : Kd.F k120 W ok A5 x.f3.length x.f3) : Kd.FK k181 W ok x [.string x.f0.f0, .string x.f0.f1, .string x.f0.f2, .int .i64 x.f1, .int .i64 x.f2, .slice A5 x.f3.length c5] := fun W2 hW => k181_mk W2 x l5 (g5 W2 hW)
def rd_T181 (xs : List S181) (i : Int) : S181 := xs.getD i.toNat z181
theorem at_T181 {w : World} {A : Option Addr} {n : Nat} {xs : List S181} (h : Kd.C k181 w A n xs) (i : Int) (h0 : 0 ≤ i) (h1 : i < n) : ∃ ad A5 c5, A = some ad ∧ w.cell? (ad.add (i.toNat * 6)) = some (.string (rd_T181 xs i).f0.f0) ∧ w.cell? ⟨(ad.add (i.toNat * 6)).block, (ad.add (i.toNat * 6)).off + 1, none⟩ = some (.string (rd_T181 xs i).f0.f1) ∧ w.cell? ⟨(ad.add (i.toNat * 6)).block, (ad.add (i.toNat * 6)).off + 2, none⟩ = some (.string (rd_T181 xs i).f0.f2) ∧ w.cell? ⟨(ad.add (i.toNat * 6)).block, (ad.add (i.toNat * 6)).off + 3, none⟩ = some (.int .i64 (rd_T181 xs i).f1) ∧ w.cell? ⟨(ad.add (i.toNat * 6)).block, (ad.add (i.toNat * 6)).off + 4, none⟩ = some (.int .i64 (rd_T181 xs i).f2) ∧ w.cell? ⟨(ad.add (i.toNat * 6)).block, (ad.add (i.toNat * 6)).off + 5, none⟩ = some (.slice A5 (rd_T181 xs i).f3.length c5) ∧ (rd_T181 xs i).f3.length ≤ c5 ∧ k120.C w A5 (rd_T181 xs i).f3.length (rd_T181 xs i).f3 := by
  obtain ⟨ad, c, e, _, hK, hc0⟩ := Kd.C_get h z181 i h0 h1
  have hc : ∀ j u, c[j]? = some u → w.cell? (ad.add (i.toNat * 6 + j)) = some u := hc0
  obtain ⟨A5, c5, rfl, l5, g5⟩ := k181_open hK
  exact ⟨ad, A5, c5, e, hc 0 _ rfl, by rw [← add_field _ _ 1 (by omega)]; exact hc 1 _ rfl, by rw [← add_field _ _ 2 (by omega)]; exact hc 2 _ rfl, by rw [← add_field _ _ 3 (by omega)]; exact hc 3 _ rfl, by rw [← add_field _ _ 4 (by omega)]; exact hc 4 _ rfl, by rw [← add_field _ _ 5 (by omega)]; exact hc 5 _ rfl, l5, g5⟩

/-! #### struct type 184 -/
structure S184 where
  f0 : S78
  f1 : (List ByteArray)
  f2 : (List ByteArray)
  f3 : (List ByteArray)
  f4 : Int
def z184 : S184 := ⟨z78, ([] : List ByteArray), ([] : List ByteArray), ([] : List ByteArray), (0 : Int)⟩
def k184 : Kd S184 := Kd.iso (Kd.pair k78 (Kd.pair (Kd.slice 9 Kd.string) (Kd.pair (Kd.slice 9 Kd.string) (Kd.pair (Kd.slice 9 Kd.string) (Kd.int .i64))))) (fun x : S184 => (x.f0, x.f1, x.f2, x.f3, x.f4))
theorem k184_heap : Kd.Heap k184 := Kd.heap_iso _ (Kd.heap_pair k78_heap (Kd.heap_pair (Kd.heap_slice 9 Kd.heap_string) (Kd.heap_pair (Kd.heap_slice 9 Kd.heap_string) (Kd.heap_pair (Kd.heap_slice 9 Kd.heap_string) (Kd.heap_int .i64)))))
theorem k184_open {w : World} {x : S184} {cs : List Value} (h : k184.K w x cs) : ∃ A7 c7 A8 c8 A9 c9, cs = [.bool x.f0.f0, .int .i64 x.f0.f1.f0, .int .i64 x.f0.f1.f1, .int .i64 x.f0.f2.f0, .int .i64 x.f0.f2.f1, .int .i64 x.f0.f3.f0, .int .i64 x.f0.f3.f1, .slice A7 x.f1.length c7, .slice A8 x.f2.length c8, .slice A9 x.f3.length c9, .int .i64 x.f4] ∧ x.f1.length ≤ c7 ∧ Kd.string.C w A7 x.f1.length x.f1 ∧ x.f2.length ≤ c8 ∧ Kd.string.C w A8 x.f2.length x.f2 ∧ x.f3.length ≤ c9 ∧ Kd.string.C w A9 x.f3.length x.f3 := by
  obtain ⟨_, _, rfl, s0, ⟨_, _, rfl, ⟨A7, c7, rfl, l7, g7⟩, ⟨_, _, rfl, ⟨A8, c8, rfl, l8, g8⟩, ⟨_, _, rfl, ⟨A9, c9, rfl, l9, g9⟩, rfl⟩⟩⟩⟩ := h
  obtain rfl := k78_open s0
  exact ⟨A7, c7, A8, c8, A9, c9, rfl, l7, g7, l8, g8, l9, g9⟩
theorem k184_openM {w : World} {base : Nat} {ok : Nat → Prop} {x : S184} {cs : List Value} (h : k184.M w base ok x cs) : ∃ v7 v8 v9, cs = [.bool x.f0.f0, .int .i64 x.f0.f1.f0, .int .i64 x.f0.f1.f1, .int .i64 x.f0.f2.f0, .int .i64 x.f0.f2.f1, .int .i64 x.f0.f3.f0, .int .i64 x.f0.f3.f1, v7, v8, v9, .int .i64 x.f4] ∧ Kd.string.R 9 w base ok v7 x.f1 ∧ Kd.string.R 9 w base ok v8 x.f2 ∧ Kd.string.R 9 w base ok v9 x.f3 := by
  obtain ⟨_, _, rfl, s0, ⟨_, _, rfl, ⟨v7, rfl, g7⟩, ⟨_, _, rfl, ⟨v8, rfl, g8⟩, ⟨_, _, rfl, ⟨v9, rfl, g9⟩, rfl⟩⟩⟩⟩ := h
  obtain rfl := k78_openM s0
  exact ⟨v7, v8, v9, rfl, g7, g8, g9⟩
theorem k184_mk (w : World) (x : S184) {A7 : Option Addr} {c7 : Nat} (l7 : x.f1.length ≤ c7) (g7 : Kd.string.C w A7 x.f1.length x.f1) {A8 : Option Addr} {c8 : Nat} (l8 : x.f2.length ≤ c8) (g8 : Kd.string.C w A8 x.f2.length x.f2) {A9 : Option Addr} {c9 : Nat} (l9 : x.f3.length ≤ c9) (g9 : Kd.string.C w A9 x.f3.length x.f3) : k184.K w x [.bool x.f0.f0, .int .i64 x.f0.f1.f0, .int .i64 x.f0.f1.f1, .int .i64 x.f0.f2.f0, .int .i64 x.f0.f2.f1, .int .i64 x.f0.f3.f0, .int .i64 x.f0.f3.f1, .slice A7 x.f1.length c7, .slice A8 x.f2.length c8, .slice A9 x.f3.length c9, .int .i64 x.f4] := ⟨[.bool x.f0.f0, .int .i64 x.f0.f1.f0, .int .i64 x.f0.f1.f1, .int .i64 x.f0.f2.f0, .int .i64 x.f0.f2.f1, .int .i64 x.f0.f3.f0, .int .i64 x.f0.f3.f1], [.slice A7 x.f1.length c7, .slice A8 x.f2.length c8, .slice A9 x.f3.length c9, .int .i64 x.f4], rfl, (k78_mk w x.f0 ), ⟨[.slice A7 x.f1.length c7], [.slice A8 x.f2.length c8, .slice A9 x.f3.length c9, .int .i64 x.f4], rfl, ⟨A7, c7, rfl, l7, g7⟩, ⟨[.slice A8 x.f2.length c8], [.slice A9 x.f3.length c9, .int .i64 x.f4], rfl, ⟨A8, c8, rfl, l8, g8⟩, ⟨[.slice A9 x.f3.length c9], [.int .i64 x.f4], rfl, ⟨A9, c9, rfl, l9, g9⟩, rfl⟩⟩⟩⟩
theorem k184_mkM (w : World) (base : Nat) (ok : Nat → Prop) (x : S184) {v7 : Value} (g7 : Kd.string.R 9 w base ok v7 x.f1) {v8 : Value} (g8 : Kd.string.R 9 w base ok v8 x.f2) {v9 : Value} (g9 : Kd.string.R 9 w base ok v9 x.f3) : k184.M w base ok x [.bool x.f0.f0, .int .i64 x.f0.f1.f0, .int .i64 x.f0.f1.f1, .int .i64 x.f0.f2.f0, .int .i64 x.f0.f2.f1, .int .i64 x.f0.f3.f0, .int .i64 x.f0.f3.f1, v7, v8, v9, .int .i64 x.f4] := ⟨[.bool x.f0.f0, .int .i64 x.f0.f1.f0, .int .i64 x.f0.f1.f1, .int .i64 x.f0.f2.f0, .int .i64 x.f0.f2.f1, .int .i64 x.f0.f3.f0, .int .i64 x.f0.f3.f1], [v7, v8, v9, .int .i64 x.f4], rfl, (k78_mkM w base ok x.f0 ), ⟨[v7], [v8, v9, .int .i64 x.f4], rfl, ⟨v7, rfl, g7⟩, ⟨[v8], [v9, .int .i64 x.f4], rfl, ⟨v8, rfl, g8⟩, ⟨[v9], [.int .i64 x.f4], rfl, ⟨v9, rfl, g9⟩, rfl⟩⟩⟩⟩
theorem k184_openF {W : World} {ok : Nat → Prop} {x : S184} {cs : List Value} (h : Kd.FK k184 W ok x cs) : ∃ A7 c7 A8 c8 A9 c9, cs = [.bool x.f0.f0, .int .i64 x.f0.f1.f0, .int .i64 x.f0.f1.f1, .int .i64 x.f0.f2.f0, .int .i64 x.f0.f2.f1, .int .i64 x.f0.f3.f0, .int .i64 x.f0.f3.f1, .slice A7 x.f1.length c7, .slice A8 x.f2.length c8, .slice A9 x.f3.length c9, .int .i64 x.f4] ∧ x.f1.length ≤ c7 ∧ Kd.F Kd.string W ok A7 x.f1.length x.f1 ∧ x.f2.length ≤ c8 ∧ Kd.F Kd.string W ok A8 x.f2.length x.f2 ∧ x.f3.length ≤ c9 ∧ Kd.F Kd.string W ok A9 x.f3.length x.f3 := by
  obtain ⟨A7, c7, A8, c8, A9, c9, rfl, l7, _, l8, _, l9, _⟩ := k184_open (Kd.FK_now h)
  exact ⟨A7, c7, A8, c8, A9, c9, rfl, l7, (fun W' hW => by obtain ⟨A7_, c7_, A8_, c8_, A9_, c9_, he, l7_, g7_, l8_, g8_, l9_, g9_⟩ := k184_open (h W' hW); injection (Option.some.inj (show some (Value.slice A7 x.f1.length c7) = some (Value.slice A7_ x.f1.length c7_) from congrArg (fun l => l[7]?) he)) with ha_ _ _; rw [ha_]; exact g7_), l8, (fun W' hW => by obtain ⟨A7_, c7_, A8_, c8_, A9_, c9_, he, l7_, g7_, l8_, g8_, l9_, g9_⟩ := k184_open (h W' hW); injection (Option.some.inj (show some (Value.slice A8 x.f2.length c8) = some (Value.slice A8_ x.f2.length c8_) from congrArg (fun l => l[8]?) he)) with ha_ _ _; rw [ha_]; exact g8_), l9, (fun W' hW => by obtain ⟨A7_, c7_, A8_, c8_, A9_, c9_, he, l7_, g7_, l8_, g8_, l9_, g9_⟩ := k184_open (h W' hW); injection (Option.some.inj (show some (Value.slice A9 x.f3.length c9) = some (Value.slice A9_ x.f3.length c9_) from congrArg (fun l => l[9]?) he)) with ha_ _ _; rw [ha_]; exact g9_)⟩
theorem k184_mkF (W : World) (ok : Nat → Prop) (x : S184) {A7 : Option Addr} {c7 : Nat} (l7 : x.f1.length ≤ c7) (g7 : Kd.F Kd.string W ok A7 x.f1.length x.f1) {A8 : Option Addr} {c8 : Nat} (l8 : x.f2.length ≤ c8) (g8 : Kd.F Kd.string W ok A8 x.f2.length x.f2) {A9 : Option Addr} {c9 : Nat} (l9 : x.f3.length ≤ c9) (g9 : Kd.F Kd.string W ok A9 x.f3.length x.f3) : Kd.FK k184 W ok x [.bool x.f0.f0, .int .i64 x.f0.f1.f0, .int .i64 x.f0.f1.f1, .int .i64 x.f0.f2.f0, .int .i64 x.f0.f2.f1, .int .i64 x.f0.f3.f0, .int .i64 x.f0.f3.f1, .slice A7 x.f1.length c7, .slice A8 x.f2.length c8, .slice A9 x.f3.length c9, .int .i64 x.f4] := fun W2 hW => k184_mk W2 x l7 (g7 W2 hW) l8 (g8 W2 hW) l9 (g9 W2 hW)
def rd_T184 (xs : List S184) (i : Int) : S184 := xs.getD i.toNat z184
theorem at_T184 {w : World} {A : Option Addr} {n : Nat} {xs : List S184} (h : Kd.C k184 w A n xs) (i : Int) (h0 : 0 ≤ i) (h1 : i < n) : ∃ ad A7 c7 A8 c8 A9 c9, A = some ad ∧ w.cell? (ad.add (i.toNat * 11)) = some (.bool (rd_T184 xs i).f0.f0) ∧ w.cell? ⟨(ad.add (i.toNat * 11)).block, (ad.add (i.toNat * 11)).off + 1, none⟩ = some (.int .i64 (rd_T184 xs i).f0.f1.f0) ∧ w.cell? ⟨(ad.add (i.toNat * 11)).block, (ad.add (i.toNat * 11)).off + 2, none⟩ = some (.int .i64 (rd_T184 xs i).f0.f1.f1) ∧ w.cell? ⟨(ad.add (i.toNat * 11)).block, (ad.add (i.toNat * 11)).off + 3, none⟩ = some (.int .i64 (rd_T184 xs i).f0.f2.f0) ∧ w.cell? ⟨(ad.add (i.toNat * 11)).block, (ad.add (i.toNat * 11)).off + 4, none⟩ = some (.int .i64 (rd_T184 xs i).f0.f2.f1) ∧ w.cell? ⟨(ad.add (i.toNat * 11)).block, (ad.add (i.toNat * 11)).off + 5, none⟩ = some (.int .i64 (rd_T184 xs i).f0.f3.f0) ∧ w.cell? ⟨(ad.add (i.toNat * 11)).block, (ad.add (i.toNat * 11)).off + 6, none⟩ = some (.int .i64 (rd_T184 xs i).f0.f3.f1) ∧ w.cell? ⟨(ad.add (i.toNat * 11)).block, (ad.add (i.toNat * 11)).off + 7, none⟩ = some (.slice A7 (rd_T184 xs i).f1.length c7) ∧ w.cell? ⟨(ad.add (i.toNat * 11)).block, (ad.add (i.toNat * 11)).off + 8, none⟩ = some (.slice A8 (rd_T184 xs i).f2.length c8) ∧ w.cell? ⟨(ad.add (i.toNat * 11)).block, (ad.add (i.toNat * 11)).off + 9, none⟩ = some (.slice A9 (rd_T184 xs i).f3.length c9) ∧ w.cell? ⟨(ad.add (i.toNat * 11)).block, (ad.add (i.toNat * 11)).off + 10, none⟩ = some (.int .i64 (rd_T184 xs i).f4) ∧ (rd_T184 xs i).f1.length ≤ c7 ∧ Kd.string.C w A7 (rd_T184 xs i).f1.length (rd_T184 xs i).f1 ∧ (rd_T184 xs i).f2.length ≤ c8 ∧ Kd.string.C w A8 (rd_T184 xs i).f2.length (rd_T184 xs i).f2 ∧ (rd_T184 xs i).f3.length ≤ c9 ∧ Kd.string.C w A9 (rd_T184 xs i).f3.length (rd_T184 xs i).f3 := by
  obtain ⟨ad, c, e, _, hK, hc0⟩ := Kd.C_get h z184 i h0 h1
  have hc : ∀ j u, c[j]? = some u → w.cell? (ad.add (i.toNat * 11 + j)) = some u := hc0
  obtain ⟨A7, c7, A8, c8, A9, c9, rfl, l7, g7, l8, g8, l9, g9⟩ := k184_open hK
  exact ⟨ad, A7, c7, A8, c8, A9, c9, e, hc 0 _ rfl, by rw [← add_field _ _ 1 (by omega)]; exact hc 1 _ rfl, by rw [← add_field _ _ 2 (by omega)]; exact hc 2 _ rfl, by rw [← add_field _ _ 3 (by omega)]; exact hc 3 _ rfl, by rw [← add_field _ _ 4 (by omega)]; exact hc 4 _ rfl, by rw [← add_field _ _ 5 (by omega)]; exact hc 5 _ rfl, by rw [← add_field _ _ 6 (by omega)]; exact hc 6 _ rfl, by rw [← add_field _ _ 7 (by omega)]; exact hc 7 _ rfl, by rw [← add_field _ _ 8 (by omega)]; exact hc 8 _ rfl, by rw [← add_field _ _ 9 (by omega)]; exact hc 9 _ rfl, by rw [← add_field _ _ 10 (by omega)]; exact hc 10 _ rfl, l7, g7, l8, g8, l9, g9⟩

/-! #### struct type 192 -/
structure S192 where
  f0 : Int
  f1 : Int
  f2 : Int
  f3 : Int
def z192 : S192 := ⟨(0 : Int), (0 : Int), (0 : Int), (0 : Int)⟩
def k192 : Kd S192 := Kd.iso (Kd.pair (Kd.int .i64) (Kd.pair (Kd.int .i64) (Kd.pair (Kd.int .i64) (Kd.int .i64)))) (fun x : S192 => (x.f0, x.f1, x.f2, x.f3))
theorem k192_heap : Kd.Heap k192 := Kd.heap_iso _ (Kd.heap_pair (Kd.heap_int .i64) (Kd.heap_pair (Kd.heap_int .i64) (Kd.heap_pair (Kd.heap_int .i64) (Kd.heap_int .i64))))
theorem k192_open {w : World} {x : S192} {cs : List Value} (h : k192.K w x cs) : cs = [.int .i64 x.f0, .int .i64 x.f1, .int .i64 x.f2, .int .i64 x.f3] := by
  obtain ⟨_, _, rfl, rfl, ⟨_, _, rfl, rfl, ⟨_, _, rfl, rfl, rfl⟩⟩⟩ := h
  exact rfl
theorem k192_openM {w : World} {base : Nat} {ok : Nat → Prop} {x : S192} {cs : List Value} (h : k192.M w base ok x cs) : cs = [.int .i64 x.f0, .int .i64 x.f1, .int .i64 x.f2, .int .i64 x.f3] := by
  obtain ⟨_, _, rfl, rfl, ⟨_, _, rfl, rfl, ⟨_, _, rfl, rfl, rfl⟩⟩⟩ := h
  exact rfl
theorem k192_mk (w : World) (x : S192)  : k192.K w x [.int .i64 x.f0, .int .i64 x.f1, .int .i64 x.f2, .int .i64 x.f3] := ⟨[.int .i64 x.f0], [.int .i64 x.f1, .int .i64 x.f2, .int .i64 x.f3], rfl, rfl, ⟨[.int .i64 x.f1], [.int .i64 x.f2, .int .i64 x.f3], rfl, rfl, ⟨[.int .i64 x.f2], [.int .i64 x.f3], rfl, rfl, rfl⟩⟩⟩
theorem k192_mkM (w : World) (base : Nat) (ok : Nat → Prop) (x : S192)  : k192.M w base ok x [.int .i64 x.f0, .int .i64 x.f1, .int .i64 x.f2, .int .i64 x.f3] := ⟨[.int .i64 x.f0], [.int .i64 x.f1, .int .i64 x.f2, .int .i64 x.f3], rfl, rfl, ⟨[.int .i64 x.f1], [.int .i64 x.f2, .int .i64 x.f3], rfl, rfl, ⟨[.int .i64 x.f2], [.int .i64 x.f3], rfl, rfl, rfl⟩⟩⟩
theorem k192_mkF (W : World) (ok : Nat → Prop) (x : S192) : Kd.FK k192 W ok x [.int .i64 x.f0, .int .i64 x.f1, .int .i64 x.f2, .int .i64 x.f3] := fun W2 _ => k192_mk W2 x
def rd_T192 (xs : List S192) (i : Int) : S192 := xs.getD i.toNat z192
theorem at_T192 {w : World} {A : Option Addr} {n : Nat} {xs : List S192} (h : Kd.C k192 w A n xs) (i : Int) (h0 : 0 ≤ i) (h1 : i < n) : ∃ ad , A = some ad ∧ w.cell? (ad.add (i.toNat * 4)) = some (.int .i64 (rd_T192 xs i).f0) ∧ w.cell? ⟨(ad.add (i.toNat * 4)).block, (ad.add (i.toNat * 4)).off + 1, none⟩ = some (.int .i64 (rd_T192 xs i).f1) ∧ w.cell? ⟨(ad.add (i.toNat * 4)).block, (ad.add (i.toNat * 4)).off + 2, none⟩ = some (.int .i64 (rd_T192 xs i).f2) ∧ w.cell? ⟨(ad.add (i.toNat * 4)).block, (ad.add (i.toNat * 4)).off + 3, none⟩ = some (.int .i64 (rd_T192 xs i).f3) := by
  obtain ⟨ad, c, e, _, hK, hc0⟩ := Kd.C_get h z192 i h0 h1
  have hc : ∀ j u, c[j]? = some u → w.cell? (ad.add (i.toNat * 4 + j)) = some u := hc0
  obtain rfl := k192_open hK
  exact ⟨ad, e, hc 0 _ rfl, by rw [← add_field _ _ 1 (by omega)]; exact hc 1 _ rfl, by rw [← add_field _ _ 2 (by omega)]; exact hc 2 _ rfl, by rw [← add_field _ _ 3 (by omega)]; exact hc 3 _ rfl⟩

/-! #### struct type 206 -/
structure S206 where
  f0 : (List Int)
  f1 : Int
def z206 : S206 := ⟨([] : List Int), (0 : Int)⟩
def k206 : Kd S206 := Kd.iso (Kd.pair (Kd.slice 3 (Kd.int .i64)) (Kd.int .i64)) (fun x : S206 => (x.f0, x.f1))
theorem k206_heap : Kd.Heap k206 := Kd.heap_iso _ (Kd.heap_pair (Kd.heap_slice 3 (Kd.heap_int .i64)) (Kd.heap_int .i64))
theorem k206_open {w : World} {x : S206} {cs : List Value} (h : k206.K w x cs) : ∃ A0 c0, cs = [.slice A0 x.f0.length c0, .int .i64 x.f1] ∧ x.f0.length ≤ c0 ∧ (Kd.int .i64).C w A0 x.f0.length x.f0 := by
  obtain ⟨_, _, rfl, ⟨A0, c0, rfl, l0, g0⟩, rfl⟩ := h
  exact ⟨A0, c0, rfl, l0, g0⟩
theorem k206_openM {w : World} {base : Nat} {ok : Nat → Prop} {x : S206} {cs : List Value} (h : k206.M w base ok x cs) : ∃ v0, cs = [v0, .int .i64 x.f1] ∧ (Kd.int .i64).R 3 w base ok v0 x.f0 := by
  obtain ⟨_, _, rfl, ⟨v0, rfl, g0⟩, rfl⟩ := h
  exact ⟨v0, rfl, g0⟩
theorem k206_mk (w : World) (x : S206) {A0 : Option Addr} {c0 : Nat} (l0 : x.f0.length ≤ c0) (g0 : (Kd.int .i64).C w A0 x.f0.length x.f0) : k206.K w x [.slice A0 x.f0.length c0, .int .i64 x.f1] := ⟨[.slice A0 x.f0.length c0], [.int .i64 x.f1], rfl, ⟨A0, c0, rfl, l0, g0⟩, rfl⟩
theorem k206_mkM (w : World) (base : Nat) (ok : Nat → Prop) (x : S206) {v0 : Value} (g0 : (Kd.int .i64).R 3 w base ok v0 x.f0) : k206.M w base ok x [v0, .int .i64 x.f1] := ⟨[v0], [.int .i64 x.f1], rfl, ⟨v0, rfl, g0⟩, rfl⟩
theorem k206_openF {W : World} {ok : Nat → Prop} {x : S206} {cs : List Value} (h : Kd.FK k206 W ok x cs) : ∃ A0 c0, cs = [.slice A0 x.f0.length c0, .int .i64 x.f1] ∧ x.f0.length ≤ c0 ∧ Kd.F (Kd.int .i64) W ok A0 x.f0.length x.f0 := by
  obtain ⟨A0, c0, rfl, l0, _⟩ := k206_open (Kd.FK_now h)
  exact ⟨A0, c0, rfl, l0, (fun W' hW => by obtain ⟨A0_, c0_, he, l0_, g0_⟩ := k206_open (h W' hW); injection (Option.some.inj (show some (Value.slice A0 x.f0.length c0) = some (Value.slice A0_ x.f0.length c0_) from congrArg (fun l => l[0]?) he)) with ha_ _ _; rw [ha_]; exact g0_)⟩
theorem k206_mkF (W : World) (ok : Nat → Prop) (x : S206) {A0 : Option Addr} {c0 : Nat} (l0 : x.f0.length ≤ c0) (g0 : Kd.F (Kd.int .i64) W ok A0 x.f0.length x.f0) : Kd.FK k206 W ok x [.slice A0 x.f0.length c0, .int .i64 x.f1] := fun W2 hW => k206_mk W2 x l0 (g0 W2 hW)
def rd_T206 (xs : List S206) (i : Int) : S206 := xs.getD i.toNat z206
theorem at_T206 {w : World} {A : Option Addr} {n : Nat} {xs : List S206} (h : Kd.C k206 w A n xs) (i : Int) (h0 : 0 ≤ i) (h1 : i < n) : ∃ ad A0 c0, A = some ad ∧ w.cell? (ad.add (i.toNat * 2)) = some (.slice A0 (rd_T206 xs i).f0.length c0) ∧ w.cell? ⟨(ad.add (i.toNat * 2)).block, (ad.add (i.toNat * 2)).off + 1, none⟩ = some (.int .i64 (rd_T206 xs i).f1) ∧ (rd_T206 xs i).f0.length ≤ c0 ∧ (Kd.int .i64).C w A0 (rd_T206 xs i).f0.length (rd_T206 xs i).f0 := by
  obtain ⟨ad, c, e, _, hK, hc0⟩ := Kd.C_get h z206 i h0 h1
  have hc : ∀ j u, c[j]? = some u → w.cell? (ad.add (i.toNat * 2 + j)) = some u := hc0
  obtain ⟨A0, c0, rfl, l0, g0⟩ := k206_open hK
  exact ⟨ad, A0, c0, e, hc 0 _ rfl, by rw [← add_field _ _ 1 (by omega)]; exact hc 1 _ rfl, l0, g0⟩

end Go.Proofs.Ytadafplbgophfaa.PA
end
section
/- slices.Clone of texts, walked by hand. -/
namespace Go.Proofs.Ytadafplbgophfaa.PA
open Go.RowKit Go.Proofs.YtadafplbgophfaaW.PrintWords Go.Proofs.YtadafplbgophfaaW.PrintLast Go.Proofs.YtadafplbgophfaaW.PrintMore

def slices_Clone_string_string.f (_k : Nat) (l0 : List ByteArray) : Option (List ByteArray) := if l0.length < 8796093022208 then some l0 else none
theorem slices_Clone_string_string.mono : ∀ a0 k, LeO (slices_Clone_string_string.f k a0) (slices_Clone_string_string.f (k + 1) a0) := fun _ _ => LeO.refl _

set_option maxHeartbeats 4000000 in
set_option maxRecDepth 100000 in
theorem slices_Clone_string_string.calls (k : Nat) (A0 : Option Addr) (c0 : Nat) (l0 : List ByteArray) (r : List ByteArray) (w : World) (hr0 : Kd.C Kd.string w A0 l0.length l0) (hc0 : l0.length ≤ c0) (h : slices_Clone_string_string.f k l0 = some r) :
    Calls Try.prog 127 #[.slice A0 l0.length c0] w fun e w' => ∃ v0_ : Value, e = .returned v0_ ∧ Kd.R Kd.string 9 w' w.heap.size (fun _ => True) v0_ r ∧ Below w.heap.size w w' := by
  unfold slices_Clone_string_string.f at h
  split at h
  case isFalse => cases h
  rename_i hl
  simp only [Option.some.injEq] at h
  subst h
  have HR0 := Aside0.mk hr0
  have HC0 := Aside0.mk hc0
  have HL := Aside0.mk hl
  clear hr0 hc0 hl
  have q27 : ∀ (w : World) (a : Option Addr) (n c n' c' : Nat), (binOp .eql 27 (.slice a n c) (.slice none n' c')).run Try.prog w = .ok (.bool a.isNone) w := fun w a n c n' c' => Lib.run_eql_slice_nil w _ _ a n c n' c' Try.underlying27
  go_enter Try.func127, Try.ntmps127
  rcases A0 with _ | ad
  · have e0 : l0 = [] := by
      rcases Nat.eq_zero_or_pos l0.length with h | h
      · exact List.eq_nil_of_length_eq_zero h
      · obtain ⟨_, h, _⟩ := HR0.out.2.2 h; cases h
    subst e0
    go_wp2
    go_ret
    exact ⟨_, rfl, Kd.R_nil _ _ _ _ _, Below.refl _ _⟩
  · go_wp2_with (first | ((with_reducible refine gate_dst (N := 5) rfl ?_); (try (refine gate_guard (by rfl) ?_; dsimp only)); refine Kd.R_lit Kd.string _ 9 ?hg (N := 5) ?hd (xs := ([] : List ByteArray)) (inner := []) (ok := fun _ => True) (okp := fun _ => True) ?hr ?hp (fun _ hk => hk) trivial (Below.refl _ _) (Nat.le_refl _) (by simp) ?_; (case hd => rfl); (case hg => rfl); (case hr => first | (go_simp; done) | (go_simp; rfl)); (case hp => exact (Reps.none _ _)); intro v5 w5 ho hb hg_ hnew_; clear hg_ hnew_; have HO5 := Aside0.mk ho; have HB5 := Aside0.mk hb; clear ho hb) | ((with_reducible refine gate_builtin (b := .append) (xs := #[.tmp 5, .tmp 6]) rfl ?_); (try (refine gate_guard (by rfl) ?_; dsimp only)); at_builtin; refine Kd.R_append_rows Kd.string (w0 := w) w.heap.size rfl (.tmp 5) (.tmp 6) 27 9 (.string ⟨#[]⟩) 16 rfl Try.underlying27 info9 rfl (by decide) (by omega) v5 [] l0 _ _ _ (fun _ => True) (fun _ => False) rfl rfl HO5.out (Kd.C_below HR0.out HB5.out) (fun _ _ h => h) (fun _ h => h.elim) (fun _ _ => trivial) HB5.out HB5.out.size ?aL ?_; (case aL => have := HL.out; simp only [List.length_nil]; omega); intro v7 w7 ho hb hg hat; have HO7 := Aside0.mk ho; have HB7 := Aside0.mk hb; clear ho hb hg hat))
    go_ret
    exact ⟨_, rfl, by simpa using HO7.out, HB7.out⟩

end Go.Proofs.Ytadafplbgophfaa.PA
end
section
/- (*edit.writer).put, walked by hand: texts come to a script. -/
namespace Go.Proofs.Ytadafplbgophfaa.PA
set_option linter.unusedSimpArgs false
set_option linter.unusedVariables false
open Go.RowKit Go.Proofs.YtadafplbgophfaaW.PrintWords Go.Proofs.YtadafplbgophfaaW.PrintLast Go.Proofs.YtadafplbgophfaaW.PrintMore

theorem rdT143_mem {l : List S143} {i : Int} (h0 : 0 ≤ i) (h1 : i < (l.length : Int)) : rd_T143 l i = l[i.toNat]'(by omega) := by
  have : i.toNat < l.length := by omega
  simp [rd_T143, List.getD_eq_getElem?_getD, this]
/-- The writer at block g: its script's row, no two of whose steps share a row of texts. -/
structure Wrt (w0 w : World) (g : Nat) (ok : Nat → Prop) (v : Value) (l : List S143) : Prop where
  below : Below w0.heap.size w0 w
  ge : w0.heap.size ≤ g
  blk : w.heap[g]? = some (.cells #[v] 137 (0, 0))
  own : Kd.S k143 143 w w0.heap.size ok v l
  nog : ¬ ok g
  fresh : ∀ k, w.heap.size ≤ k → ok k

def putS (l : List S143) (kind : Int) (t : List ByteArray) : List S143 :=
  if t.length = 0 then l else if 0 < l.length ∧ (rd_T143 l ((l.length - 1 : Nat) : Int)).f0 = kind then l.set (l.length - 1) ⟨kind, (rd_T143 l ((l.length - 1 : Nat) : Int)).f1 ++ t⟩ else l ++ [⟨kind, t⟩]


def edit_writer_put.T3 : Bool × List (List Nat × List Nat) := (true, [([], []), ([0], [0]), ([1], [1]), ([2], [2]), ([], []), ([4], [4]), ([], []), ([6], [6]), ([7], [7]), ([8], [8]), ([], []), ([10], [10]), ([9, 11], [9, 11]), ([12], [12]), ([13], [13]), ([], []), ([14, 15], [14, 15]), ([3, 5, 0, 1, 2, 3, 4, 5, 6, 7, 8, 9, 10, 11, 12, 13, 14, 15, 16], [3, 5]), ([17, 0, 1, 2, 3, 4, 5, 6, 7, 8, 9, 10, 11, 12, 13, 14, 15, 16], [17]), ([18, 16, 16, 0, 1, 2, 3, 4, 5, 6, 7, 8, 9, 10, 11, 12, 13, 14, 15, 16], [16, 18])])
def edit_writer_put.B3 : List Nat := [0, 1, 3, 7, 0, 16, 0, 64, 192, 448, 0, 1024, 4032, 8128, 16320, 0, 65472, 131071, 262143, 524287]
theorem edit_writer_put.tab3 : rtab .any (opsOf Try.f87 3) = edit_writer_put.T3 := by kernel_rfl
theorem edit_writer_put.bits3 : waitsOk edit_writer_put.T3.2 edit_writer_put.B3 = true := by kernel_rfl
def edit_writer_put.T4 : Bool × List (List Nat × List Nat) := (true, [([], []), ([], []), ([1], [1]), ([2], [2]), ([3], [3]), ([], []), ([], []), ([6], [6]), ([5, 7], [5, 7]), ([8], [8]), ([4, 9, 7], [4, 9]), ([0, 0, 1, 2, 3, 4, 5, 6, 7, 8, 9, 10], [0]), ([11, 0, 1, 2, 3, 4, 5, 6, 7, 8, 9, 10], [11]), ([12, 10, 10, 0, 1, 2, 3, 4, 5, 6, 7, 8, 9, 10], [10, 12])])
def edit_writer_put.B4 : List Nat := [0, 0, 2, 6, 14, 0, 0, 64, 224, 480, 1022, 2047, 4095, 8191]
theorem edit_writer_put.tab4 : rtab .any (opsOf Try.f87 4) = edit_writer_put.T4 := by kernel_rfl
theorem edit_writer_put.bits4 : waitsOk edit_writer_put.T4.2 edit_writer_put.B4 = true := by kernel_rfl
theorem size_set (w : World) (p : Addr) (u : Value) : (w.setCell p u).heap.size = w.heap.size := by simp [World.setCell]
theorem Wrt.on {w0 w w1 : World} {g : Nat} {ok : Nat → Prop} {v : Value} {l : List S143} (h : Wrt w0 w g ok v l) (hb : Below w.heap.size w w1) : Wrt w0 w1 g ok v l := ⟨below_step h.below hb, h.ge, (hb.block g (blk_lt h.blk)).trans h.blk, Kd.S_below h.own hb, h.nog, fun k hk => h.fresh k (Nat.le_trans hb.size hk)⟩
theorem Wrt.drew {w0 w : World} {g : Nat} {ok : Nat → Prop} {v : Value} {l : List S143} (h : Wrt w0 w g ok v l) : Wrt w0 w.drew g ok v l := ⟨below_drew h.below, h.ge, h.blk, Kd.S_drew h.own, h.nog, h.fresh⟩
/-- What is behind the last step's texts is written: the step is put back with more texts. -/
theorem hole_put {w1 : World} {base g2 n cap : Nat} {ok oki : Nat → Prop} {l : List S143} {ji : Int} {k0 : Int} {u v1 : Value} {t' : List ByteArray} (hH : Kd.H k143 143 w1 base ok (.slice (some ⟨g2, 0, none⟩) n cap) l ji oki [.int .i64 k0, u]) (h0 : 0 ≤ ji) (h1 : ji < n)
    (hR : Kd.R Kd.string 9 w1 base oki v1 t') :
    Kd.S k143 143 (w1.setCell ⟨g2, ji.toNat * 2 + 1, none⟩ v1) base ok (.slice (some ⟨g2, 0, none⟩) n cap) (l.set ji.toNat ⟨k0, t'⟩) := by
  have hng : ∀ k, oki k → k ≠ g2 := by
    intro k hk he
    subst he
    obtain ⟨_, f, hR⟩ := hH
    exact (hR.1 k (by simp [Value.ownBlock])).2 hk
  have hone := (Kd.R_val hR).2
  obtain ⟨h2, h3⟩ := Kd.H_seg hH h0 h1 (seg := [v1]) (j := 1) (by show 1 + 1 ≤ 2; omega) (by intro q hq; rw [List.mem_singleton.1 hq]; exact hone)
  have hM : k143.M (w1.setCell ⟨g2, ji.toNat * 2 + 1, none⟩ v1) base oki (⟨k0, t'⟩ : S143) [.int .i64 k0, v1] := k143_mkM _ _ _ (⟨k0, t'⟩ : S143) (Kd.R_far hR (p := ⟨g2, ji.toNat * 2 + 1, none⟩) hng v1)
  exact Kd.H_back h2 hM (fun _ hk => hk)
theorem hole_at {w1 : World} {base g2 n cap : Nat} {ok oki : Nat → Prop} {l : List S143} {ji : Int} {k0 : Int} {u : Value} (hH : Kd.H k143 143 w1 base ok (.slice (some ⟨g2, 0, none⟩) n cap) l ji oki [.int .i64 k0, u]) (h0 : 0 ≤ ji) (h1 : ji < n) :
    w1.cell? ⟨g2, ji.toNat * 2 + 1, none⟩ = some u ∧ w1.frozen? ⟨g2, ji.toNat * 2 + 1, none⟩ = false := by
  obtain ⟨rows, _, hraw, _, _, hcc, _⟩ := Kd.H_raw hH h0 h1
  obtain ⟨_, _, _, _, hfr⟩ := Kd.R_elem hraw [] ji h0 h1
  exact ⟨hcc 1 u rfl, hfr 1⟩

set_option maxHeartbeats 4000000 in
set_option maxRecDepth 100000 in
theorem edit_writer_put.calls (g : Nat) (ok : Nat → Prop) (v : Value) (l : List S143) (kind : Int) (A : Option Addr) (c : Nat) (t : List ByteArray) (w0 w : World) (hF : Wrt w0 w g ok v l)
    (hr : Kd.C Kd.string w A t.length t) (hc : t.length ≤ c) (hl : l.length ≤ 1000000000) (ht : t.length ≤ 1000000000) (hlt : ∀ s ∈ l, s.f1.length ≤ 1000000000) :
    Calls Try.prog 87 #[.pointer (some ⟨g, 0, none⟩), .int .i64 kind, .slice A t.length c] w fun e w' => e = .returned (.tuple #[]) ∧ (∃ v', Wrt w0 w' g ok v' (putS l kind t)) ∧ ∀ k, k < w.heap.size → ¬ ok k → k ≠ g → w'.heap[k]? = w.heap[k]? := by
  have HF := Aside0.mk hF
  have HR := Aside0.mk hr
  have HC := Aside0.mk hc
  have HL := Aside0.mk hl
  have HT := Aside0.mk ht
  have HLT := Aside0.mk hlt
  clear hF hr hc hl ht hlt
  have hu137 := Try.underlying137
  have hu143 := Try.underlying143
  have hc0 := (blk_cell HF.out.blk 0).trans (show _ = some v from rfl)
  obtain ⟨A2, n2, c2, rfl⟩ : ∃ A n c, v = Value.slice A n c := by obtain ⟨A, c, h⟩ := Kd.S_slice HF.out.own; exact ⟨A, _, c, h⟩
  obtain ⟨rfl, _, _⟩ := Kd.S_reads' HF.out.own
  by_cases h0 : t.length = 0
  · have e0 : ((t.length : Int) == 0) = true := by rw [beq_iff_eq]; omega
    go_enter Try.func87, Try.ntmps87
    go_wp2
    (try simp only [Exit.inBlock, Exit.then]); refine bodyPost_ret (results_none rfl _ _ _) rfl ?_
    refine ⟨rfl, ⟨(Value.slice A2 l.length c2), ?_⟩, fun _ _ _ _ => rfl⟩
    unfold putS
    rw [if_pos h0]
    exact HF.out
  · have e0 : ((t.length : Int) == 0) = false := by rw [beq_eq_false_iff_ne]; omega
    by_cases h1 : 0 < l.length
    · have e1 : decide ((0 : Int) < (l.length : Int)) = true := decide_eq_true (by omega)
      obtain ⟨ji, hji⟩ : ∃ j_ : Int, wrap64 ((l.length : Int) - 1) = j_ := ⟨_, rfl⟩
      have hjv : ji = ((l.length - 1 : Nat) : Int) := by rw [← hji]; unfold wrap64; have := HL.out; omega
      have p0 : 0 ≤ ji := by omega
      have q0 : ji < (l.length : Int) := by omega
      obtain ⟨g2, cap, eV, hg2, hg2l, hcells⟩ := Kd.S_form HF.out.own h1
      simp only [Value.slice.injEq] at eV
      obtain ⟨rfl, _, rfl⟩ := eV
      obtain ⟨oki, cs, hcl, hM, hcc, hfr, hoki, hH⟩ := Kd.S_elem HF.out.own (⟨0, []⟩ : S143) ji p0 q0
      have hrd : l.getD ji.toNat (⟨0, []⟩ : S143) = rd_T143 l ji := rfl
      rw [hrd] at hM
      obtain ⟨x, hxv⟩ : ∃ x, x = rd_T143 l ji := ⟨_, rfl⟩
      rw [← hxv] at hM
      obtain ⟨v1, rfl, hR1⟩ := k143_openM hM
      obtain ⟨Ai, ni, ci, rfl⟩ : ∃ A n c, v1 = Value.slice A n c := by obtain ⟨A, c, h⟩ := Kd.R_slice hR1; exact ⟨A, _, c, h⟩
      have hx0 : w.cell? ⟨g2, ji.toNat * 2, none⟩ = some (.int .i64 x.f0) := hcc 0 _ rfl
      have hx1 : w.cell? ⟨g2, ji.toNat * 2 + 1, none⟩ = some (.slice Ai ni ci) := hcc 1 _ rfl
      have HX := Aside0.mk hxv
      have HM := Aside0.mk hM
      have HH := Aside0.mk hH
      have HO := Aside0.mk hoki
      have HOI : Aside0 (∀ k, (Value.slice Ai ni ci).ownBlock = some k → oki k) := ⟨hR1.1⟩
      have HR1 := Aside0.mk hR1
      have HJ := Aside0.mk hjv
      clear hM hH hoki hcc hR1 hcl hrd hfr hcells hxv hjv
      have HP := Aside0.mk p0
      have HQ := Aside0.mk q0
      have HLX : Aside0 (x.f1.length ≤ 1000000000) := ⟨by rw [HX.out]; exact HLT.out _ (by rw [rdT143_mem HP.out HQ.out]; exact List.getElem_mem _)⟩
      replace p0 := eq_true p0
      replace q0 := eq_true q0
      by_cases h2 : x.f0 = kind
      · have e2 : (x.f0 == kind) = true := beq_iff_eq.mpr h2
        have HG := Aside0.mk (blk_lt HF.out.blk)
        have HWf := Aside0.mk HF.out.fresh
        have HW := Aside0.mk (Kd.H_widen HH.out)
        have HRW : Aside0 (Kd.R Kd.string 9 w w0.heap.size (fun k => oki k ∨ (ok k ∧ w.heap.size ≤ k)) (.slice Ai ni ci) x.f1) := ⟨Kd.R_mono HR1.out (fun k hk => .inl hk)⟩
        go_enter Try.func87, Try.ntmps87
        go_wp2
        refine start_ (n := 20) (S := fun w' => w'.cell? ⟨g, 0, none⟩ = some (.slice (some ⟨g2, 0, none⟩) l.length c2) ∧ w'.cell? ⟨g2, ji.toNat * 2 + 1, none⟩ = some (.slice Ai ni ci)) (ds := [19]) #[false, false, false, false, false, false, false, false, false, false, false, false, false, false, false, false, false, false, false, false] (by kernel_rfl) rfl rfl ⟨hc0, hx1⟩ (fun hHeld => ?_); refine with_tabW edit_writer_put.tab3 edit_writer_put.bits3 (fun HT_ HW_ => ?_)
        have HW1 := Aside0.mk (Kd.H_drew HW.out)
        have HR2 := Aside0.mk (Kd.R_drew HRW.out)
        have HC2 := Aside0.mk (Kd.C_drew HR.out)
        have HF2 := Aside0.mk HF.out.drew
        have HG2 : Aside0 (w.heap.size ≤ w.drew.heap.size) := ⟨Nat.le_refl _⟩
        have HDr : Aside0 (∀ k : Nat, w.drew.heap[k]? = w.heap[k]?) := ⟨fun _ => rfl⟩
        clear HW HRW HR HF hc0 hx1 hx0 HR1 HH HM
        generalize w.drew = wd at HW1 HR2 HC2 HF2 HG2 HDr hHeld ⊢
        refine pure_ (i := 0) (N := some 30) (v := ?_) (a' := ?_) #[true, false, false, false, false, false, false, false, false, false, false, false, false, false, false, false, false, false, false, false] rfl rfl (any_of HT_.out (by kernel_rfl)) (fun _ _ _ h => h) (Or.inl ⟨by rfl, ?_⟩) ?_ ?_
        rotate_left
        · intro w'
          go_simp
          with_reducible rfl
        rotate_left
        · simp only [Act.put, List.setIfInBounds_toArray, List.set_cons_zero, List.set_cons_succ, i64_w, i32_w]
          rfl
        refine pure_ (i := 1) (N := some 31) (v := ?_) (a' := ?_) #[true, true, false, false, false, false, false, false, false, false, false, false, false, false, false, false, false, false, false, false] rfl rfl (any_of HT_.out (by kernel_rfl)) (fun _ _ _ h => h) (Or.inl ⟨by rfl, ?_⟩) ?_ ?_
        rotate_left
        · intro w'
          go_simp
          with_reducible rfl
        rotate_left
        · simp only [Act.put, List.setIfInBounds_toArray, List.set_cons_zero, List.set_cons_succ, i64_w, i32_w]
          rfl
        refine pure_ (i := 2) (N := some 32) (v := ?_) (a' := ?_) #[true, true, true, false, false, false, false, false, false, false, false, false, false, false, false, false, false, false, false, false] rfl rfl (any_of HT_.out (by kernel_rfl)) (fun _ _ _ h => h) (Or.inl ⟨by rfl, ?_⟩) ?_ ?_
        rotate_left
        · intro w'
          go_simp
          with_reducible rfl
        rotate_left
        · simp only [Act.put, List.setIfInBounds_toArray, List.set_cons_zero, List.set_cons_succ, i64_w, i32_w]
          rfl
        refine pure_ (i := 4) (N := some 34) (v := ?_) (a' := ?_) #[true, true, true, false, true, false, false, false, false, false, false, false, false, false, false, false, false, false, false, false] rfl rfl (any_of HT_.out (by kernel_rfl)) (fun _ _ _ h => h) (Or.inl ⟨by rfl, ?_⟩) ?_ ?_
        rotate_left
        · intro w'
          go_simp
          with_reducible rfl
        rotate_left
        · simp only [Act.put, List.setIfInBounds_toArray, List.set_cons_zero, List.set_cons_succ, i64_w, i32_w]
          rfl
        refine pure_ (i := 5) (N := some 35) (v := ?_) (a' := ?_) #[true, true, true, false, true, true, false, false, false, false, false, false, false, false, false, false, false, false, false, false] rfl rfl (any_of HT_.out (by kernel_rfl)) (fun _ _ _ h => h) (Or.inl ⟨by rfl, ?_⟩) ?_ ?_
        rotate_left
        · intro w'
          go_simp
          with_reducible rfl
        rotate_left
        · simp only [Act.put, List.setIfInBounds_toArray, List.set_cons_zero, List.set_cons_succ, i64_w, i32_w]
          rfl
        refine pure_ (i := 6) (N := some 36) (v := ?_) (a' := ?_) #[true, true, true, false, true, true, true, false, false, false, false, false, false, false, false, false, false, false, false, false] rfl rfl (any_of HT_.out (by kernel_rfl)) (fun _ _ _ h => h) (Or.inl ⟨by rfl, ?_⟩) ?_ ?_
        rotate_left
        · intro w'
          go_simp
          with_reducible rfl
        rotate_left
        · simp only [Act.put, List.setIfInBounds_toArray, List.set_cons_zero, List.set_cons_succ, i64_w, i32_w]
          rfl
        refine pure_ (i := 7) (N := some 37) (v := ?_) (a' := ?_) #[true, true, true, false, true, true, true, true, false, false, false, false, false, false, false, false, false, false, false, false] rfl rfl (any_of HT_.out (by kernel_rfl)) (fun _ _ _ h => h) (Or.inl ⟨by rfl, ?_⟩) ?_ ?_
        rotate_left
        · intro w'
          go_simp
          with_reducible rfl
        rotate_left
        · simp only [Act.put, List.setIfInBounds_toArray, List.set_cons_zero, List.set_cons_succ, i64_w, i32_w]
          rfl
        refine pure_ (i := 8) (N := some 38) (v := ?_) (a' := ?_) #[true, true, true, false, true, true, true, true, true, false, false, false, false, false, false, false, false, false, false, false] rfl rfl (any_of HT_.out (by kernel_rfl)) (fun _ _ _ h => h) (Or.inl ⟨by rfl, ?_⟩) ?_ ?_
        rotate_left
        · intro w'
          go_simp
          with_reducible rfl
        rotate_left
        · simp only [Act.put, List.setIfInBounds_toArray, List.set_cons_zero, List.set_cons_succ, i64_w, i32_w]
          rfl
        refine pure_ (i := 10) (N := some 40) (v := ?_) (a' := ?_) #[true, true, true, false, true, true, true, true, true, false, true, false, false, false, false, false, false, false, false, false] rfl rfl (any_of HT_.out (by kernel_rfl)) (fun _ _ _ h => h) (Or.inl ⟨by rfl, ?_⟩) ?_ ?_
        rotate_left
        · intro w'
          go_simp
          with_reducible rfl
        rotate_left
        · simp only [Act.put, List.setIfInBounds_toArray, List.set_cons_zero, List.set_cons_succ, i64_w, i32_w]
          rfl
        refine pure_ (i := 11) (N := some 41) (v := ?_) (a' := ?_) #[true, true, true, false, true, true, true, true, true, false, true, true, false, false, false, false, false, false, false, false] rfl rfl (any_of HT_.out (by kernel_rfl)) (fun _ _ _ h => h) (Or.inl ⟨by rfl, ?_⟩) ?_ ?_
        rotate_left
        · intro w'
          go_simp
          with_reducible rfl
        rotate_left
        · simp only [Act.put, List.setIfInBounds_toArray, List.set_cons_zero, List.set_cons_succ, i64_w, i32_w]
          rfl
        refine pure_ (i := 15) (N := some 45) (v := ?_) (a' := ?_) #[true, true, true, false, true, true, true, true, true, false, true, true, false, false, false, true, false, false, false, false] rfl rfl (any_of HT_.out (by kernel_rfl)) (fun _ _ _ h => h) (Or.inl ⟨by rfl, ?_⟩) ?_ ?_
        rotate_left
        · intro w'
          go_simp
          with_reducible rfl
        rotate_left
        · simp only [Act.put, List.setIfInBounds_toArray, List.set_cons_zero, List.set_cons_succ, i64_w, i32_w]
          rfl
        refine take_ (i := 3) (N := some 33) (v := ?_) (a' := ?_) #[true, true, true, true, true, true, true, true, true, false, true, true, false, false, false, true, false, false, false, false] rfl rfl (take_ofW HT_.out HW_.out (by kernel_rfl)) (fun _ _ _ h => h) (Or.inl ⟨by rfl, ?_⟩) hHeld ?_ ?_
        rotate_left
        · rintro w' ⟨s0, s1⟩
          go_simp
          with_reducible rfl
        rotate_left
        · simp only [Act.put, List.setIfInBounds_toArray, List.set_cons_zero, List.set_cons_succ, i64_w, i32_w]
          rfl
        refine take_ (i := 9) (N := some 39) (v := ?_) (a' := ?_) #[true, true, true, true, true, true, true, true, true, true, true, true, false, false, false, true, false, false, false, false] rfl rfl (take_ofW HT_.out HW_.out (by kernel_rfl)) (fun _ _ _ h => h) (Or.inl ⟨by rfl, ?_⟩) hHeld ?_ ?_
        rotate_left
        · rintro w' ⟨s0, s1⟩
          go_simp
          with_reducible rfl
        rotate_left
        · simp only [Act.put, List.setIfInBounds_toArray, List.set_cons_zero, List.set_cons_succ, i64_w, i32_w]
          rfl
        refine pure_ (i := 12) (N := some 42) (v := ?_) (a' := ?_) #[true, true, true, true, true, true, true, true, true, true, true, true, true, false, false, true, false, false, false, false] rfl rfl (any_of HT_.out (by kernel_rfl)) (fun _ _ _ h => h) (Or.inl ⟨by rfl, ?_⟩) ?_ ?_
        rotate_left
        · intro w'
          go_simp
          with_reducible rfl
        rotate_left
        · simp only [Act.put, List.setIfInBounds_toArray, List.set_cons_zero, List.set_cons_succ, i64_w, i32_w]
          rfl
        refine pure_ (i := 13) (N := some 43) (v := ?_) (a' := ?_) #[true, true, true, true, true, true, true, true, true, true, true, true, true, true, false, true, false, false, false, false] rfl rfl (any_of HT_.out (by kernel_rfl)) (fun _ _ _ h => h) (Or.inl ⟨by rfl, ?_⟩) ?_ ?_
        rotate_left
        · intro w'
          go_simp
          with_reducible rfl
        rotate_left
        · simp only [Act.put, List.setIfInBounds_toArray, List.set_cons_zero, List.set_cons_succ, i64_w, i32_w]
          rfl
        refine take_ (i := 14) (N := some 44) (v := ?_) (a' := ?_) #[true, true, true, true, true, true, true, true, true, true, true, true, true, true, true, true, false, false, false, false] rfl rfl (take_ofW HT_.out HW_.out (by kernel_rfl)) (fun _ _ _ h => h) (Or.inl ⟨by rfl, ?_⟩) hHeld ?_ ?_
        rotate_left
        · rintro w' ⟨s0, s1⟩
          go_simp
          with_reducible rfl
        rotate_left
        · simp only [Act.put, List.setIfInBounds_toArray, List.set_cons_zero, List.set_cons_succ, i64_w, i32_w]
          rfl
        refine one_ (i := 16) (N := some 46) #[true, true, true, true, true, true, true, true, true, true, true, true, true, true, true, true, true, false, false, false] rfl rfl (one_of HT_.out (by kernel_rfl)) (by decide) (fun K hK => ?_)
        refine Kd.R_append_rows_step Kd.string (w0 := w0) w0.heap.size (by rfl) (.tmp 44) (.tmp 45) 27 9 (.string ⟨#[]⟩) 16 rfl Try.underlying27 info9 rfl (by decide) (by omega) (Value.slice Ai ni ci) x.f1 t _ _ _ (fun k => oki k ∨ (ok k ∧ w.heap.size ≤ k)) (fun _ => False) rfl rfl HR2.out HC2.out (fun _ _ h => h) (fun _ h => h.elim) ?aF HF2.out.below HF2.out.below.size ?aL ?_
        (case aF => exact fun k hk => .inr ⟨HF2.out.fresh k hk, by have := HG2.out; omega⟩)
        (case aL => have := HLX.out; have := HT.out; omega)
        intro v2 w2 ho hb hg hat
        have HR3 := Aside0.mk ho
        have HB3 := Aside0.mk hb
        have HH3 := Aside0.mk (Kd.H_grown HW1.out hg (fun k hk => .inl (HOI.out k hk)))
        have HK3 := Aside0.mk (blk_grown HF2.out.blk hg (fun e => HF2.out.nog (HO.out _ (HOI.out _ e.symm)).1))
        have HFr : Aside0 (∀ k, k < w.heap.size → ¬ ok k → w2.heap[k]? = w.heap[k]?) := ⟨fun k hk hn => (hg.block k (by have := HG2.out; omega) (fun e => hn (HO.out _ (HOI.out _ e.symm)).1)).trans (HDr.out k)⟩
        have HSz : Aside0 (w.heap.size ≤ w2.heap.size) := ⟨Nat.le_trans HG2.out hg.size⟩
        clear ho hb hg hat
        obtain ⟨A3, n3, c3, rfl⟩ : ∃ A n c, v2 = Value.slice A n c := (by obtain ⟨A, c, h⟩ := Kd.R_slice HR3.out; exact ⟨A, _, c, h⟩)
        have hh3 := (hole_at HH3.out HP.out HQ.out).1
        have hh4 := (hole_at HH3.out HP.out HQ.out).2
        refine hK.out _ _ ⟨(blk_cell HK3.out 0).trans (show _ = some _ from rfl), hh3⟩ (fun hHeld => ?_)
        clear hK K
        refine norm_ (a' := ?_) ?_ ?_
        rotate_left
        · show Act.put _ (some 46) _ = _
          simp only [Act.put, List.setIfInBounds_toArray, List.set_cons_zero, List.set_cons_succ, i64_w, i32_w]
          rfl
        refine pure_ (i := 17) (N := some 47) (v := ?_) (a' := ?_) #[true, true, true, true, true, true, true, true, true, true, true, true, true, true, true, true, true, true, false, false] rfl rfl (any_of HT_.out (by kernel_rfl)) (fun _ _ _ h => h) (Or.inl ⟨by rfl, ?_⟩) ?_ ?_
        rotate_left
        · intro w'
          go_simp
          with_reducible rfl
        rotate_left
        · simp only [Act.put, List.setIfInBounds_toArray, List.set_cons_zero, List.set_cons_succ, i64_w, i32_w]
          rfl
        refine pure_ (i := 18) (N := some 48) (v := ?_) (a' := ?_) #[true, true, true, true, true, true, true, true, true, true, true, true, true, true, true, true, true, true, true, false] rfl rfl (any_of HT_.out (by kernel_rfl)) (fun _ _ _ h => h) (Or.inl ⟨by rfl, ?_⟩) ?_ ?_
        rotate_left
        · intro w'
          go_simp
          with_reducible rfl
        rotate_left
        · simp only [Act.put, List.setIfInBounds_toArray, List.set_cons_zero, List.set_cons_succ, i64_w, i32_w]
          rfl
        refine last_ (i := 19) (N := none) #[true, true, true, true, true, true, true, true, true, true, true, true, true, true, true, true, true, true, true, true] rfl rfl (one_of HT_.out (by kernel_rfl)) (by decide) (fun K hK => ?_)
        refine skip_ (w1 := ?_) (by rfl) rfl ?_ ?_
        rotate_left
        · go_simp
          rfl
        refine hK.out _ _ ?_
        clear hK K
        refine done_ (done_of HT_.out (by kernel_rfl)) ?_
        go_wp2
        (try simp only [Exit.inBlock, Exit.then]); refine bodyPost_ret (results_none rfl _ _ _) rfl ?_
        have hog : ok g2 := (Kd.S_R HF2.out.own).1 g2 rfl
        have hgg : g2 ≠ g := fun e => HF2.out.nog (e ▸ hog)
        have hput : putS l kind t = l.set ji.toNat ⟨x.f0, x.f1 ++ t⟩ := by
          unfold putS
          have hji : ji = ((l.length - 1 : Nat) : Int) := HJ.out
          rw [if_neg h0, ← hji, ← HX.out, if_pos ⟨h1, h2⟩, h2, hji, Int.toNat_natCast]
        rw [hput]
        exact ⟨rfl, ⟨_, ⟨HB3.out.setCell hg2 _, HF2.out.ge, blk_far HK3.out (fun e => hgg e.symm) _, hole_put HH3.out HP.out HQ.out HR3.out, HF2.out.nog, fun k hk => HWf.out k (Nat.le_trans HSz.out (by rwa [size_set] at hk))⟩⟩, fun k hk hn _ => (Below.heap_setCell _ _ _ k (fun e => hn (e ▸ hog))).trans (HFr.out k hk hn)⟩
      · have e2 : (x.f0 == kind) = false := beq_eq_false_iff_ne.mpr h2
        go_enter Try.func87, Try.ntmps87
        go_wp2
        refine start_ (n := 14) (S := fun w' => w'.cell? ⟨g, 0, none⟩ = some (Value.slice (some ⟨g2, 0, none⟩) l.length c2)) (ds := [13]) #[false, false, false, false, false, false, false, false, false, false, false, false, false, false] (by kernel_rfl) rfl rfl hc0 (fun hHeld => ?_); refine with_tabW edit_writer_put.tab4 edit_writer_put.bits4 (fun HT_ HW_ => ?_)
        have HC2 := Aside0.mk (Kd.C_drew HR.out)
        have HF2 := Aside0.mk HF.out.drew
        have HDr : Aside0 (∀ k : Nat, w.drew.heap[k]? = w.heap[k]?) := ⟨fun _ => rfl⟩
        have HG2 : Aside0 (w.heap.size ≤ w.drew.heap.size) := ⟨Nat.le_refl _⟩
        clear HR HF hc0 hx1 hx0 HR1 HH HM
        generalize w.drew = wd at HC2 HF2 HDr HG2 hHeld ⊢
        refine pure_ (i := 0) (N := some 49) (v := ?_) (a' := ?_) #[true, false, false, false, false, false, false, false, false, false, false, false, false, false] rfl rfl (any_of HT_.out (by kernel_rfl)) (fun _ _ _ h => h) (Or.inl ⟨by rfl, ?_⟩) ?_ ?_
        rotate_left
        · intro w'
          go_simp
          with_reducible rfl
        rotate_left
        · simp only [Act.put, List.setIfInBounds_toArray, List.set_cons_zero, List.set_cons_succ, i64_w, i32_w]
          rfl
        refine pure_ (i := 1) (N := some 50) (v := ?_) (a' := ?_) #[true, true, false, false, false, false, false, false, false, false, false, false, false, false] rfl rfl (any_of HT_.out (by kernel_rfl)) (fun _ _ _ h => h) (Or.inl ⟨by rfl, ?_⟩) ?_ ?_
        rotate_left
        · intro w'
          go_simp
          with_reducible rfl
        rotate_left
        · simp only [Act.put, List.setIfInBounds_toArray, List.set_cons_zero, List.set_cons_succ, i64_w, i32_w]
          rfl
        refine pure_ (i := 2) (N := some 51) (v := ?_) (a' := ?_) #[true, true, true, false, false, false, false, false, false, false, false, false, false, false] rfl rfl (any_of HT_.out (by kernel_rfl)) (fun _ _ _ h => h) (Or.inl ⟨by rfl, ?_⟩) ?_ ?_
        rotate_left
        · intro w'
          go_simp
          with_reducible rfl
        rotate_left
        · simp only [Act.put, List.setIfInBounds_toArray, List.set_cons_zero, List.set_cons_succ, i64_w, i32_w]
          rfl
        refine pure_ (i := 3) (N := some 52) (v := ?_) (a' := ?_) #[true, true, true, true, false, false, false, false, false, false, false, false, false, false] rfl rfl (any_of HT_.out (by kernel_rfl)) (fun _ _ _ h => h) (Or.inl ⟨by rfl, ?_⟩) ?_ ?_
        rotate_left
        · intro w'
          go_simp
          with_reducible rfl
        rotate_left
        · simp only [Act.put, List.setIfInBounds_toArray, List.set_cons_zero, List.set_cons_succ, i64_w, i32_w]
          rfl
        refine pure_ (i := 5) (N := some 54) (v := ?_) (a' := ?_) #[true, true, true, true, false, true, false, false, false, false, false, false, false, false] rfl rfl (any_of HT_.out (by kernel_rfl)) (fun _ _ _ h => h) (Or.inl ⟨by rfl, ?_⟩) ?_ ?_
        rotate_left
        · intro w'
          go_simp
          with_reducible rfl
        rotate_left
        · simp only [Act.put, List.setIfInBounds_toArray, List.set_cons_zero, List.set_cons_succ, i64_w, i32_w]
          rfl
        refine pure_ (i := 6) (N := some 55) (v := ?_) (a' := ?_) #[true, true, true, true, false, true, true, false, false, false, false, false, false, false] rfl rfl (any_of HT_.out (by kernel_rfl)) (fun _ _ _ h => h) (Or.inl ⟨by rfl, ?_⟩) ?_ ?_
        rotate_left
        · intro w'
          go_simp
          with_reducible rfl
        rotate_left
        · simp only [Act.put, List.setIfInBounds_toArray, List.set_cons_zero, List.set_cons_succ, i64_w, i32_w]
          rfl
        refine take_ (i := 4) (N := some 53) (v := ?_) (a' := ?_) #[true, true, true, true, true, true, true, false, false, false, false, false, false, false] rfl rfl (take_ofW HT_.out HW_.out (by kernel_rfl)) (fun _ _ _ h => h) (Or.inl ⟨by rfl, ?_⟩) hHeld ?_ ?_
        rotate_left
        · rintro w' s0
          go_simp
          with_reducible rfl
        rotate_left
        · simp only [Act.put, List.setIfInBounds_toArray, List.set_cons_zero, List.set_cons_succ, i64_w, i32_w]
          rfl
        refine one_ (i := 7) (N := some 56) #[true, true, true, true, true, true, true, true, false, false, false, false, false, false] rfl rfl (one_of HT_.out (by kernel_rfl)) (by decide) (fun K hK => ?_)
        refine goes_ Try.func127 (by kernel_rfl) rfl #[.slice A t.length c] (by rfl) rfl rfl (by (try simp only [List.map_toArray, List.map_cons, List.map_nil]); first | done | rfl) ?_
        refine (slices_Clone_string_string.calls 0 A c t t wd HC2.out HC.out (by unfold slices_Clone_string_string.f; rw [if_pos (by have := HT.out; omega)])).mono ?_
        rintro e w2 ⟨v2, rfl, ho, hb⟩
        refine ⟨_, rfl, ?_⟩
        obtain ⟨A3, n3, c3, rfl⟩ : ∃ A n c, v2 = Value.slice A n c := (by obtain ⟨A, c, h⟩ := Kd.R_slice ho; exact ⟨A, _, c, h⟩)
        have HR3 := Aside0.mk ho
        have HB3 := Aside0.mk hb
        have HF3 := Aside0.mk (HF2.out.on hb)
        clear ho hb
        refine hK.out _ _ ((blk_cell HF3.out.blk 0).trans (show _ = some _ from rfl)) (fun hHeld => ?_)
        clear hK K
        refine norm_ (a' := ?_) ?_ ?_
        rotate_left
        · show Act.put _ (some 56) _ = _
          simp only [Act.put, List.setIfInBounds_toArray, List.set_cons_zero, List.set_cons_succ, i64_w, i32_w]
          rfl
        refine pure_ (i := 8) (N := some 57) (v := ?_) (a' := ?_) #[true, true, true, true, true, true, true, true, true, false, false, false, false, false] rfl rfl (any_of HT_.out (by kernel_rfl)) (fun _ _ _ h => h) (Or.inl ⟨by rfl, ?_⟩) ?_ ?_
        rotate_left
        · intro w'
          go_simp
          with_reducible rfl
        rotate_left
        · simp only [Act.put, List.setIfInBounds_toArray, List.set_cons_zero, List.set_cons_succ, i64_w, i32_w]
          rfl
        refine one_ (i := 9) (N := some 58) #[true, true, true, true, true, true, true, true, true, true, false, false, false, false] rfl rfl (one_of HT_.out (by kernel_rfl)) (by decide) (fun K hK => ?_)
        refine value_ (w1 := ?_) (v := ?_) (by rfl) rfl ?_ ?_
        rotate_left 2
        · go_simp
          constructor
          · rfl
          · rfl
        refine hK.out _ _ ((blk_cell (blk_alloc HF3.out.blk _) 0).trans (show _ = some _ from rfl)) (fun hHeld => ?_)
        clear hK K
        refine norm_ (a' := ?_) ?_ ?_
        rotate_left
        · show Act.put _ (some 58) _ = _
          simp only [Act.put, List.setIfInBounds_toArray, List.set_cons_zero, List.set_cons_succ, i64_w, i32_w]
          rfl
        refine one_ (i := 10) (N := some 59) #[true, true, true, true, true, true, true, true, true, true, true, false, false, false] rfl rfl (one_of HT_.out (by kernel_rfl)) (by decide) (fun K hK => ?_)
        refine Kd.S_append_step k143 (w0 := w0) w0.heap.size (by rfl) (.tmp 53) (.tmp 58) 44 143 (.agg #[(.int .i64 0), (.slice none 0 0)]) 32 rfl Try.underlying44 info143 rfl (by decide) (by omega) (Value.slice (some ⟨g2, 0, none⟩) l.length c2) l (⟨kind, t⟩ : S143) [.int .i64 kind, .slice A3 n3 c3] ok (fun k => some k = (Value.slice A3 n3 c3).ownBlock) rfl rfl ?aP ?aK ?aF ?aO HF3.out.below HF3.out.below.size ?aL ?_
        (case aP => exact k143_mkM _ _ _ (⟨kind, t⟩ : S143) (Kd.R_mono (Kd.R_lower (Kd.R_tight rfl HR3.out) HF2.out.below.size) (fun _ hk => hk)))
        (case aK => exact fun k hk => ⟨HF2.out.fresh k (Kd.R_base HR3.out k hk.symm), fun e => by have h1 := Kd.R_base HR3.out k hk.symm; have h2 := Kd.S_lt HF2.out.own k e.symm; omega⟩)
        (case aF => exact HF3.out.fresh)
        (case aO => exact Kd.S_mono (Kd.S_old HF2.out.own HB3.out) (fun k hk => ⟨hk.1, fun e => by have h1 := Kd.R_base HR3.out k e.symm; have h2 := hk.2; omega⟩))
        (case aL => have := HL.out; omega)
        intro v4 w4 ho hb hg hat
        have HO4 := Aside0.mk ho
        have HB4 := Aside0.mk hb
        have HK4 := Aside0.mk (blk_grown HF3.out.blk hg (fun e => HF3.out.nog ((Kd.S_R HF3.out.own).1 _ e.symm)))
        have HFr : Aside0 (∀ k, k < w.heap.size → ¬ ok k → w4.heap[k]? = w.heap[k]?) := ⟨fun k hk hn => (hg.block k (by have := HG2.out; have := HB3.out.size; omega) (fun e => hn ((Kd.S_R HF3.out.own).1 _ e.symm))).trans ((HB3.out.block k (by have := HG2.out; omega)).trans (HDr.out k))⟩
        have HSz : Aside0 (wd.heap.size ≤ w4.heap.size) := ⟨Nat.le_trans HB3.out.size hg.size⟩
        clear ho hb hg hat
        obtain ⟨A4, n4, c4, rfl⟩ : ∃ A n c, v4 = Value.slice A n c := (by obtain ⟨A, c, h⟩ := Kd.S_slice HO4.out; exact ⟨A, _, c, h⟩)
        have hh3 := (blk_cell HK4.out 0).trans (show _ = some _ from rfl)
        have hh4 := blk_frozen HK4.out 0
        refine hK.out _ _ hh3 (fun hHeld => ?_)
        clear hK K
        refine norm_ (a' := ?_) ?_ ?_
        rotate_left
        · show Act.put _ (some 59) _ = _
          simp only [Act.put, List.setIfInBounds_toArray, List.set_cons_zero, List.set_cons_succ, i64_w, i32_w]
          rfl
        refine pure_ (i := 11) (N := some 60) (v := ?_) (a' := ?_) #[true, true, true, true, true, true, true, true, true, true, true, true, false, false] rfl rfl (any_of HT_.out (by kernel_rfl)) (fun _ _ _ h => h) (Or.inl ⟨by rfl, ?_⟩) ?_ ?_
        rotate_left
        · intro w'
          go_simp
          with_reducible rfl
        rotate_left
        · simp only [Act.put, List.setIfInBounds_toArray, List.set_cons_zero, List.set_cons_succ, i64_w, i32_w]
          rfl
        refine pure_ (i := 12) (N := some 61) (v := ?_) (a' := ?_) #[true, true, true, true, true, true, true, true, true, true, true, true, true, false] rfl rfl (any_of HT_.out (by kernel_rfl)) (fun _ _ _ h => h) (Or.inl ⟨by rfl, ?_⟩) ?_ ?_
        rotate_left
        · intro w'
          go_simp
          with_reducible rfl
        rotate_left
        · simp only [Act.put, List.setIfInBounds_toArray, List.set_cons_zero, List.set_cons_succ, i64_w, i32_w]
          rfl
        refine last_ (i := 13) (N := none) #[true, true, true, true, true, true, true, true, true, true, true, true, true, true] rfl rfl (one_of HT_.out (by kernel_rfl)) (by decide) (fun K hK => ?_)
        refine skip_ (w1 := ?_) (by rfl) rfl ?_ ?_
        rotate_left
        · go_simp
          rfl
        refine hK.out _ _ ?_
        clear hK K
        refine done_ (done_of HT_.out (by kernel_rfl)) ?_
        try go_wp2
        go_end0
        refine ⟨rfl, ⟨_, ⟨HB4.out.setCell HF2.out.ge _, HF2.out.ge, blk_set HK4.out 0 _, ?_, HF2.out.nog, fun k hk => HF2.out.fresh k (Nat.le_trans HSz.out (by rwa [size_set] at hk))⟩⟩, fun k hk hn hg => (Below.heap_setCell _ _ _ k hg).trans (HFr.out k hk hn)⟩
        have hput : putS l kind t = l ++ [⟨kind, t⟩] := by
          unfold putS
          have hji : ji = ((l.length - 1 : Nat) : Int) := HJ.out
          rw [if_neg h0, ← hji, ← HX.out, if_neg (fun e => h2 e.2)]
        rw [hput]
        exact Kd.S_far HO4.out (p := ⟨g, 0, none⟩) (fun k hk e => HF2.out.nog ((show k = g from e) ▸ hk)) _
    · have e1 : decide ((0 : Int) < (l.length : Int)) = false := decide_eq_false (by omega)
      go_enter Try.func87, Try.ntmps87
      go_wp2
      refine start_ (n := 14) (S := fun w' => w'.cell? ⟨g, 0, none⟩ = some (Value.slice A2 l.length c2)) (ds := [13]) #[false, false, false, false, false, false, false, false, false, false, false, false, false, false] (by kernel_rfl) rfl rfl hc0 (fun hHeld => ?_); refine with_tabW edit_writer_put.tab4 edit_writer_put.bits4 (fun HT_ HW_ => ?_)
      have HC2 := Aside0.mk (Kd.C_drew HR.out)
      have HF2 := Aside0.mk HF.out.drew
      have HDr : Aside0 (∀ k : Nat, w.drew.heap[k]? = w.heap[k]?) := ⟨fun _ => rfl⟩
      have HG2 : Aside0 (w.heap.size ≤ w.drew.heap.size) := ⟨Nat.le_refl _⟩
      clear HR HF hc0 
      generalize w.drew = wd at HC2 HF2 HDr HG2 hHeld ⊢
      refine pure_ (i := 0) (N := some 49) (v := ?_) (a' := ?_) #[true, false, false, false, false, false, false, false, false, false, false, false, false, false] rfl rfl (any_of HT_.out (by kernel_rfl)) (fun _ _ _ h => h) (Or.inl ⟨by rfl, ?_⟩) ?_ ?_
      rotate_left
      · intro w'
        go_simp
        with_reducible rfl
      rotate_left
      · simp only [Act.put, List.setIfInBounds_toArray, List.set_cons_zero, List.set_cons_succ, i64_w, i32_w]
        rfl
      refine pure_ (i := 1) (N := some 50) (v := ?_) (a' := ?_) #[true, true, false, false, false, false, false, false, false, false, false, false, false, false] rfl rfl (any_of HT_.out (by kernel_rfl)) (fun _ _ _ h => h) (Or.inl ⟨by rfl, ?_⟩) ?_ ?_
      rotate_left
      · intro w'
        go_simp
        with_reducible rfl
      rotate_left
      · simp only [Act.put, List.setIfInBounds_toArray, List.set_cons_zero, List.set_cons_succ, i64_w, i32_w]
        rfl
      refine pure_ (i := 2) (N := some 51) (v := ?_) (a' := ?_) #[true, true, true, false, false, false, false, false, false, false, false, false, false, false] rfl rfl (any_of HT_.out (by kernel_rfl)) (fun _ _ _ h => h) (Or.inl ⟨by rfl, ?_⟩) ?_ ?_
      rotate_left
      · intro w'
        go_simp
        with_reducible rfl
      rotate_left
      · simp only [Act.put, List.setIfInBounds_toArray, List.set_cons_zero, List.set_cons_succ, i64_w, i32_w]
        rfl
      refine pure_ (i := 3) (N := some 52) (v := ?_) (a' := ?_) #[true, true, true, true, false, false, false, false, false, false, false, false, false, false] rfl rfl (any_of HT_.out (by kernel_rfl)) (fun _ _ _ h => h) (Or.inl ⟨by rfl, ?_⟩) ?_ ?_
      rotate_left
      · intro w'
        go_simp
        with_reducible rfl
      rotate_left
      · simp only [Act.put, List.setIfInBounds_toArray, List.set_cons_zero, List.set_cons_succ, i64_w, i32_w]
        rfl
      refine pure_ (i := 5) (N := some 54) (v := ?_) (a' := ?_) #[true, true, true, true, false, true, false, false, false, false, false, false, false, false] rfl rfl (any_of HT_.out (by kernel_rfl)) (fun _ _ _ h => h) (Or.inl ⟨by rfl, ?_⟩) ?_ ?_
      rotate_left
      · intro w'
        go_simp
        with_reducible rfl
      rotate_left
      · simp only [Act.put, List.setIfInBounds_toArray, List.set_cons_zero, List.set_cons_succ, i64_w, i32_w]
        rfl
      refine pure_ (i := 6) (N := some 55) (v := ?_) (a' := ?_) #[true, true, true, true, false, true, true, false, false, false, false, false, false, false] rfl rfl (any_of HT_.out (by kernel_rfl)) (fun _ _ _ h => h) (Or.inl ⟨by rfl, ?_⟩) ?_ ?_
      rotate_left
      · intro w'
        go_simp
        with_reducible rfl
      rotate_left
      · simp only [Act.put, List.setIfInBounds_toArray, List.set_cons_zero, List.set_cons_succ, i64_w, i32_w]
        rfl
      refine take_ (i := 4) (N := some 53) (v := ?_) (a' := ?_) #[true, true, true, true, true, true, true, false, false, false, false, false, false, false] rfl rfl (take_ofW HT_.out HW_.out (by kernel_rfl)) (fun _ _ _ h => h) (Or.inl ⟨by rfl, ?_⟩) hHeld ?_ ?_
      rotate_left
      · rintro w' s0
        go_simp
        with_reducible rfl
      rotate_left
      · simp only [Act.put, List.setIfInBounds_toArray, List.set_cons_zero, List.set_cons_succ, i64_w, i32_w]
        rfl
      refine one_ (i := 7) (N := some 56) #[true, true, true, true, true, true, true, true, false, false, false, false, false, false] rfl rfl (one_of HT_.out (by kernel_rfl)) (by decide) (fun K hK => ?_)
      refine goes_ Try.func127 (by kernel_rfl) rfl #[.slice A t.length c] (by rfl) rfl rfl (by (try simp only [List.map_toArray, List.map_cons, List.map_nil]); first | done | rfl) ?_
      refine (slices_Clone_string_string.calls 0 A c t t wd HC2.out HC.out (by unfold slices_Clone_string_string.f; rw [if_pos (by have := HT.out; omega)])).mono ?_
      rintro e w2 ⟨v2, rfl, ho, hb⟩
      refine ⟨_, rfl, ?_⟩
      obtain ⟨A3, n3, c3, rfl⟩ : ∃ A n c, v2 = Value.slice A n c := (by obtain ⟨A, c, h⟩ := Kd.R_slice ho; exact ⟨A, _, c, h⟩)
      have HR3 := Aside0.mk ho
      have HB3 := Aside0.mk hb
      have HF3 := Aside0.mk (HF2.out.on hb)
      clear ho hb
      refine hK.out _ _ ((blk_cell HF3.out.blk 0).trans (show _ = some _ from rfl)) (fun hHeld => ?_)
      clear hK K
      refine norm_ (a' := ?_) ?_ ?_
      rotate_left
      · show Act.put _ (some 56) _ = _
        simp only [Act.put, List.setIfInBounds_toArray, List.set_cons_zero, List.set_cons_succ, i64_w, i32_w]
        rfl
      refine pure_ (i := 8) (N := some 57) (v := ?_) (a' := ?_) #[true, true, true, true, true, true, true, true, true, false, false, false, false, false] rfl rfl (any_of HT_.out (by kernel_rfl)) (fun _ _ _ h => h) (Or.inl ⟨by rfl, ?_⟩) ?_ ?_
      rotate_left
      · intro w'
        go_simp
        with_reducible rfl
      rotate_left
      · simp only [Act.put, List.setIfInBounds_toArray, List.set_cons_zero, List.set_cons_succ, i64_w, i32_w]
        rfl
      refine one_ (i := 9) (N := some 58) #[true, true, true, true, true, true, true, true, true, true, false, false, false, false] rfl rfl (one_of HT_.out (by kernel_rfl)) (by decide) (fun K hK => ?_)
      refine value_ (w1 := ?_) (v := ?_) (by rfl) rfl ?_ ?_
      rotate_left 2
      · go_simp
        constructor
        · rfl
        · rfl
      refine hK.out _ _ ((blk_cell (blk_alloc HF3.out.blk _) 0).trans (show _ = some _ from rfl)) (fun hHeld => ?_)
      clear hK K
      refine norm_ (a' := ?_) ?_ ?_
      rotate_left
      · show Act.put _ (some 58) _ = _
        simp only [Act.put, List.setIfInBounds_toArray, List.set_cons_zero, List.set_cons_succ, i64_w, i32_w]
        rfl
      refine one_ (i := 10) (N := some 59) #[true, true, true, true, true, true, true, true, true, true, true, false, false, false] rfl rfl (one_of HT_.out (by kernel_rfl)) (by decide) (fun K hK => ?_)
      refine Kd.S_append_step k143 (w0 := w0) w0.heap.size (by rfl) (.tmp 53) (.tmp 58) 44 143 (.agg #[(.int .i64 0), (.slice none 0 0)]) 32 rfl Try.underlying44 info143 rfl (by decide) (by omega) (Value.slice A2 l.length c2) l (⟨kind, t⟩ : S143) [.int .i64 kind, .slice A3 n3 c3] ok (fun k => some k = (Value.slice A3 n3 c3).ownBlock) rfl rfl ?aP ?aK ?aF ?aO HF3.out.below HF3.out.below.size ?aL ?_
      (case aP => exact k143_mkM _ _ _ (⟨kind, t⟩ : S143) (Kd.R_mono (Kd.R_lower (Kd.R_tight rfl HR3.out) HF2.out.below.size) (fun _ hk => hk)))
      (case aK => exact fun k hk => ⟨HF2.out.fresh k (Kd.R_base HR3.out k hk.symm), fun e => by have h1 := Kd.R_base HR3.out k hk.symm; have h2 := Kd.S_lt HF2.out.own k e.symm; omega⟩)
      (case aF => exact HF3.out.fresh)
      (case aO => exact Kd.S_mono (Kd.S_old HF2.out.own HB3.out) (fun k hk => ⟨hk.1, fun e => by have h1 := Kd.R_base HR3.out k e.symm; have h2 := hk.2; omega⟩))
      (case aL => have := HL.out; omega)
      intro v4 w4 ho hb hg hat
      have HO4 := Aside0.mk ho
      have HB4 := Aside0.mk hb
      have HK4 := Aside0.mk (blk_grown HF3.out.blk hg (fun e => HF3.out.nog ((Kd.S_R HF3.out.own).1 _ e.symm)))
      have HFr : Aside0 (∀ k, k < w.heap.size → ¬ ok k → w4.heap[k]? = w.heap[k]?) := ⟨fun k hk hn => (hg.block k (by have := HG2.out; have := HB3.out.size; omega) (fun e => hn ((Kd.S_R HF3.out.own).1 _ e.symm))).trans ((HB3.out.block k (by have := HG2.out; omega)).trans (HDr.out k))⟩
      have HSz : Aside0 (wd.heap.size ≤ w4.heap.size) := ⟨Nat.le_trans HB3.out.size hg.size⟩
      clear ho hb hg hat
      obtain ⟨A4, n4, c4, rfl⟩ : ∃ A n c, v4 = Value.slice A n c := (by obtain ⟨A, c, h⟩ := Kd.S_slice HO4.out; exact ⟨A, _, c, h⟩)
      have hh3 := (blk_cell HK4.out 0).trans (show _ = some _ from rfl)
      have hh4 := blk_frozen HK4.out 0
      refine hK.out _ _ hh3 (fun hHeld => ?_)
      clear hK K
      refine norm_ (a' := ?_) ?_ ?_
      rotate_left
      · show Act.put _ (some 59) _ = _
        simp only [Act.put, List.setIfInBounds_toArray, List.set_cons_zero, List.set_cons_succ, i64_w, i32_w]
        rfl
      refine pure_ (i := 11) (N := some 60) (v := ?_) (a' := ?_) #[true, true, true, true, true, true, true, true, true, true, true, true, false, false] rfl rfl (any_of HT_.out (by kernel_rfl)) (fun _ _ _ h => h) (Or.inl ⟨by rfl, ?_⟩) ?_ ?_
      rotate_left
      · intro w'
        go_simp
        with_reducible rfl
      rotate_left
      · simp only [Act.put, List.setIfInBounds_toArray, List.set_cons_zero, List.set_cons_succ, i64_w, i32_w]
        rfl
      refine pure_ (i := 12) (N := some 61) (v := ?_) (a' := ?_) #[true, true, true, true, true, true, true, true, true, true, true, true, true, false] rfl rfl (any_of HT_.out (by kernel_rfl)) (fun _ _ _ h => h) (Or.inl ⟨by rfl, ?_⟩) ?_ ?_
      rotate_left
      · intro w'
        go_simp
        with_reducible rfl
      rotate_left
      · simp only [Act.put, List.setIfInBounds_toArray, List.set_cons_zero, List.set_cons_succ, i64_w, i32_w]
        rfl
      refine last_ (i := 13) (N := none) #[true, true, true, true, true, true, true, true, true, true, true, true, true, true] rfl rfl (one_of HT_.out (by kernel_rfl)) (by decide) (fun K hK => ?_)
      refine skip_ (w1 := ?_) (by rfl) rfl ?_ ?_
      rotate_left
      · go_simp
        rfl
      refine hK.out _ _ ?_
      clear hK K
      refine done_ (done_of HT_.out (by kernel_rfl)) ?_
      try go_wp2
      go_end0
      refine ⟨rfl, ⟨_, ⟨HB4.out.setCell HF2.out.ge _, HF2.out.ge, blk_set HK4.out 0 _, ?_, HF2.out.nog, fun k hk => HF2.out.fresh k (Nat.le_trans HSz.out (by rwa [size_set] at hk))⟩⟩, fun k hk hn hg => (Below.heap_setCell _ _ _ k hg).trans (HFr.out k hk hn)⟩
      have hput : putS l kind t = l ++ [⟨kind, t⟩] := by
        unfold putS
        rw [if_neg h0, if_neg (fun e => h1 e.1)]
      rw [hput]
      exact Kd.S_far HO4.out (p := ⟨g, 0, none⟩) (fun k hk e => HF2.out.nog ((show k = g from e) ▸ hk)) _

end Go.Proofs.Ytadafplbgophfaa.PA
end
section
/- edit.Back, walked by hand. -/
namespace Go.Proofs.Ytadafplbgophfaa.PA
set_option linter.unusedSimpArgs false
set_option linter.unusedVariables false
open Go.RowKit Go.Proofs.YtadafplbgophfaaW.PrintWords Go.Proofs.YtadafplbgophfaaW.PrintLast Go.Proofs.YtadafplbgophfaaW.PrintMore

def putO (l : List S143) (kind : Int) (t : List ByteArray) : Option (List S143) :=
  if l.length ≤ 1000000000 ∧ t.length ≤ 1000000000 ∧ (∀ s ∈ l, s.f1.length ≤ 1000000000) then some (putS l kind t) else none
def backR : List S143 → List S143 → List ByteArray → Option (List S143)
  | [], out, late => putO out 2 late
  | s :: l, out, late => if s.f0 = 1 then backR l out s.f1 else
      (if s.f0 = 2 then putO out 1 s.f1 else some out).bind fun o1 => (putO o1 2 late).bind fun o2 => (if s.f0 = 0 then putO o2 0 s.f1 else some o2).bind fun o3 => backR l o3 []
def edit_Back.f (_k : Nat) (l0 : List S143) : Option (List S143) := backR l0 [] []
theorem nilC {α : Type} {k : Kd α} {w : World} : Kd.C k w none ([] : List α).length [] := ⟨rfl, by simp, fun h => by simp at h⟩
theorem edit_Back.mono : ∀ a0 k, LeO (edit_Back.f k a0) (edit_Back.f (k + 1) a0) := fun _ _ => LeO.refl _

/-- beside a new block: it is none of the writer's -/
theorem Wrt.beside {w0 w : World} {g : Nat} {v : Value} {l : List S143} (h : Wrt w0 w g (fun k => k ≠ g) v l) (o : Obj) : Wrt w0 (w.alloc o) g (fun k => k ≠ g ∧ k ≠ w.heap.size) v l := by
  refine ⟨below_alloc h.below o, h.ge, blk_alloc h.blk o, Kd.S_alloc (Kd.S_elderB h.own _ (Nat.le_refl _)) o, fun e => e.1 rfl, fun k hk => ?_⟩
  have h1 := blk_lt (blk_new w o)
  have h2 := blk_lt h.blk
  exact ⟨by omega, by omega⟩
theorem Wrt.drop {w0 w : World} {g : Nat} {P : Nat → Prop} {v : Value} {l : List S143} (h : Wrt w0 w g (fun k => k ≠ g ∧ P k) v l) : Wrt w0 w g (fun k => k ≠ g) v l :=
  ⟨h.below, h.ge, h.blk, Kd.S_mono h.own (fun _ hk => hk.1), fun e => e rfl, fun k hk => (h.fresh k hk).1⟩
theorem putO_some {l l' : List S143} {kind : Int} {t : List ByteArray} (h : putO l kind t = some l') : l.length ≤ 1000000000 ∧ t.length ≤ 1000000000 ∧ (∀ s ∈ l, s.f1.length ≤ 1000000000) ∧ putS l kind t = l' := by
  unfold putO at h
  split at h
  case isFalse => cases h
  rename_i hG
  simp only [Option.some.injEq] at h
  exact ⟨hG.1, hG.2.1, hG.2.2, h⟩

set_option maxHeartbeats 4000000 in
set_option maxRecDepth 100000 in
theorem edit_Back.calls (k : Nat) (A0 : Option Addr) (c0 : Nat) (l0 : List S143) (r : List S143) (w : World) (hr0 : Kd.C k143 w A0 l0.length l0) (hc0 : l0.length ≤ c0) (h : edit_Back.f k l0 = some r) :
    Calls Try.prog 40 #[.slice A0 l0.length c0] w fun e w' => ∃ v0_ : Value, e = .returned v0_ ∧ Kd.S k143 143 w' w.heap.size (fun _ => True) v0_ r ∧ Below w.heap.size w w' := by
  unfold edit_Back.f at h
  have hu143 := Try.underlying143
  have hu137 := Try.underlying137
  have HR0 := Aside0.mk hr0
  have HC0 := Aside0.mk hc0
  have HN : Aside0 (l0.length ≤ 9223372036854775807) := ⟨hr0.2.1⟩
  clear hr0 hc0
  have HV := Aside0.mk h
  clear h
  go_enter Try.func40, Try.ntmps40
  go_wp2
  go_loopw [4, 9] (fun v4 v9 wr => ∃ (i : Nat) (AL : Option Addr) (cL : Nat) (late : List ByteArray) (v : Value) (out : List S143), i ≤ l0.length ∧ v4 = .slice AL late.length cL ∧ v9 = .int .i64 (i : Int) ∧ Aside0 (late.length ≤ cL) ∧ Aside0 (Kd.C Kd.string w AL late.length late) ∧ Aside0 (Wrt w wr w.heap.size (fun k => k ≠ w.heap.size) v out) ∧ Aside0 (backR (l0.drop i) out late = some r)) (fun _ v9 _ => l0.length - (intOf v9).toNat)
  case atStart =>
    have hsz : ∀ k, (w.alloc (.cells #[.slice none 0 0] 137 (0, 0))).heap.size ≤ k → k ≠ w.heap.size := fun k hk e => by
      have := blk_lt (blk_new w (.cells #[.slice none 0 0] 137 (0, 0)))
      omega
    exact ⟨0, none, 0, [], .slice none 0 0, [], Nat.zero_le _, rfl, rfl, ⟨Nat.le_refl _⟩, ⟨nilC⟩, ⟨⟨below_alloc (Below.refl _ _) _, Nat.le_refl _, blk_new w _, Kd.S_nil _ _ _ _ _, fun h => h rfl, hsz⟩⟩, HV⟩
  case round =>
    obtain ⟨i, AL, cL, late, v, out, hi, rfl, rfl, HCL, HL, HW, HB⟩ := hrel
    by_cases hlt : i < l0.length
    · have HWI : Aside0 (wrap64 ((i : Int) + 1) = ((i + 1 : Nat) : Int)) := ⟨by have := HN.out; unfold wrap64; omega⟩
      have p0 : (0 : Int) ≤ (i : Int) := by omega
      have q0 : (i : Int) < (l0.length : Int) := by omega
      obtain ⟨ad, A1, c1, eA, hx0, hx1, hl1, hr1⟩ := at_T143 HR0.out (i : Int) p0 q0
      cases eA
      replace hx0 := (HW.out.below.cell (World.block_lt_of_cell? w _ hx0)).trans hx0
      replace hx1 := (HW.out.below.cell (World.block_lt_of_cell? w _ hx1)).trans hx1
      have hrd : rd_T143 l0 (i : Int) = l0[i] := by simp [rd_T143, List.getD_eq_getElem?_getD, hlt]
      rw [hrd, Int.toNat_natCast] at hx0 hx1
      rw [hrd] at hl1 hr1
      have hb := HB.out
      rw [List.drop_eq_getElem_cons hlt] at hb
      generalize l0[i] = s at hx0 hx1 hl1 hr1 hb
      have HL1 := Aside0.mk hl1
      have HR1 := Aside0.mk hr1
      clear hl1 hr1 HB hrd
      have hcut : decide ((i : Int) < (l0.length : Int)) = true := decide_eq_true q0
      unfold backR at hb
      by_cases e1 : s.f0 = 1
      · rw [if_pos e1] at hb
        have HB2 := Aside0.mk hb
        have f1 : (s.f0 == 1) = true := beq_iff_eq.mpr e1
        clear hb e1
        go_wp2_with fail
        go_roundw
        case rel => exact ⟨i + 1, A1, c1, s.f1, v, out, hlt, rfl, by rw [HWI.out], HL1, HR1, ⟨HW.out.on (below_alloc (Below.refl _ _) _)⟩, HB2⟩
        case measure => rw [HWI.out]; simp only [intOf, Int.toNat_natCast]; omega
      · rw [if_neg e1] at hb
        have f1 : (s.f0 == 1) = false := beq_eq_false_iff_ne.mpr e1
        have HB2 := Aside0.mk hb
        clear hb
        have hn0 := (blk_cell (blk_new wr (.cells #[.int .i64 s.f0, .slice A1 s.f1.length c1] 143 (0, 0))) 0).trans (show _ = some _ from rfl)
        have hn1 := (blk_cell (blk_new wr (.cells #[.int .i64 s.f0, .slice A1 s.f1.length c1] 143 (0, 0))) 1).trans (show _ = some _ from rfl)
        have hS := blk_new wr (.cells #[.int .i64 s.f0, .slice A1 s.f1.length c1] 143 (0, 0))
        have HW1 := Aside0.mk (HW.out.beside (.cells #[.int .i64 s.f0, .slice A1 s.f1.length c1] 143 (0, 0)))
        have hb := HB2.out
        by_cases e2 : s.f0 = 2
        · have f2 : (s.f0 == 2) = true := beq_iff_eq.mpr e2
          have f0 : (s.f0 == 0) = false := beq_eq_false_iff_ne.mpr (by omega)
          rw [if_pos e2] at hb
          obtain ⟨o1, g1, hb⟩ := Option.bind_eq_some_iff.1 hb
          obtain ⟨o2, g2, hb⟩ := Option.bind_eq_some_iff.1 hb
          rw [if_neg (by omega), Option.bind_some] at hb
          have g1 := putO_some g1
          have g2 := putO_some g2
          clear e1 e2
          go_wp2_with fail
          refine (edit_writer_put.calls w.heap.size _ v out 1 A1 c1 s.f1 w _ HW1.out (Kd.C_below HR1.out HW1.out.below) HL1.out g1.1 g1.2.1 g1.2.2.1).mono ?_
          rintro e w2 ⟨rfl, ⟨v2, hW'⟩, hfr⟩
          rw [g1.2.2.2] at hW'
          have hS2 := (hfr _ (blk_lt hS) (fun h => h.2 rfl) (by have := blk_lt HW.out.blk; omega)).trans hS
          have hn02 := (blk_cell hS2 0).trans (show _ = some _ from rfl)
          have hn12 := (blk_cell hS2 1).trans (show _ = some _ from rfl)
          have HW2 := Aside0.mk hW'
          clear hW' hfr
          go_wp2_with fail
          refine (edit_writer_put.calls w.heap.size _ v2 o1 2 AL cL late w _ HW2.out (Kd.C_below HL.out HW2.out.below) HCL.out g2.1 g2.2.1 g2.2.2.1).mono ?_
          rintro e w3 ⟨rfl, ⟨v3, hW'⟩, hfr⟩
          rw [g2.2.2.2] at hW'
          have hS3 := (hfr _ (blk_lt hS2) (fun h => h.2 rfl) (by have := blk_lt HW.out.blk; omega)).trans hS2
          have hn03 := (blk_cell hS3 0).trans (show _ = some _ from rfl)
          have hn13 := (blk_cell hS3 1).trans (show _ = some _ from rfl)
          have HW3 := Aside0.mk hW'
          clear hW' hfr
          go_wp2_with fail
          go_roundw
          case rel => exact ⟨i + 1, none, 0, [], v3, o2, hlt, rfl, by rw [HWI.out], ⟨Nat.le_refl _⟩, ⟨nilC⟩, ⟨HW3.out.drop⟩, ⟨hb⟩⟩
          case measure => rw [HWI.out]; simp only [intOf, Int.toNat_natCast]; omega
        · have f2 : (s.f0 == 2) = false := beq_eq_false_iff_ne.mpr e2
          rw [if_neg e2, Option.bind_some] at hb
          obtain ⟨o2, g2, hb⟩ := Option.bind_eq_some_iff.1 hb
          have g2 := putO_some g2
          by_cases e0 : s.f0 = 0
          · have f0 : (s.f0 == 0) = true := beq_iff_eq.mpr e0
            rw [if_pos e0] at hb
            obtain ⟨o3, g3, hb⟩ := Option.bind_eq_some_iff.1 hb
            have g3 := putO_some g3
            clear e1 e2 e0
            go_wp2_with fail
            refine (edit_writer_put.calls w.heap.size _ v out 2 AL cL late w _ HW1.out (Kd.C_below HL.out HW1.out.below) HCL.out g2.1 g2.2.1 g2.2.2.1).mono ?_
            rintro e w2 ⟨rfl, ⟨v2, hW'⟩, hfr⟩
            rw [g2.2.2.2] at hW'
            have hS2 := (hfr _ (blk_lt hS) (fun h => h.2 rfl) (by have := blk_lt HW.out.blk; omega)).trans hS
            have hn02 := (blk_cell hS2 0).trans (show _ = some _ from rfl)
            have hn12 := (blk_cell hS2 1).trans (show _ = some _ from rfl)
            have HW2 := Aside0.mk hW'
            clear hW' hfr
            go_wp2_with fail
            refine (edit_writer_put.calls w.heap.size _ v2 o2 0 A1 c1 s.f1 w _ HW2.out (Kd.C_below HR1.out HW2.out.below) HL1.out g3.1 g3.2.1 g3.2.2.1).mono ?_
            rintro e w3 ⟨rfl, ⟨v3, hW'⟩, hfr⟩
            rw [g3.2.2.2] at hW'
            have hS3 := (hfr _ (blk_lt hS2) (fun h => h.2 rfl) (by have := blk_lt HW.out.blk; omega)).trans hS2
            have hn03 := (blk_cell hS3 0).trans (show _ = some _ from rfl)
            have hn13 := (blk_cell hS3 1).trans (show _ = some _ from rfl)
            have HW3 := Aside0.mk hW'
            clear hW' hfr
            go_wp2_with fail
            go_roundw
            case rel => exact ⟨i + 1, none, 0, [], v3, o3, hlt, rfl, by rw [HWI.out], ⟨Nat.le_refl _⟩, ⟨nilC⟩, ⟨HW3.out.drop⟩, ⟨hb⟩⟩
            case measure => rw [HWI.out]; simp only [intOf, Int.toNat_natCast]; omega
          · have f0 : (s.f0 == 0) = false := beq_eq_false_iff_ne.mpr e0
            rw [if_neg e0, Option.bind_some] at hb
            clear e1 e2 e0
            go_wp2_with fail
            refine (edit_writer_put.calls w.heap.size _ v out 2 AL cL late w _ HW1.out (Kd.C_below HL.out HW1.out.below) HCL.out g2.1 g2.2.1 g2.2.2.1).mono ?_
            rintro e w2 ⟨rfl, ⟨v2, hW'⟩, hfr⟩
            rw [g2.2.2.2] at hW'
            have hS2 := (hfr _ (blk_lt hS) (fun h => h.2 rfl) (by have := blk_lt HW.out.blk; omega)).trans hS
            have hn02 := (blk_cell hS2 0).trans (show _ = some _ from rfl)
            have hn12 := (blk_cell hS2 1).trans (show _ = some _ from rfl)
            have HW2 := Aside0.mk hW'
            clear hW' hfr
            go_wp2_with fail
            go_roundw
            case rel => exact ⟨i + 1, none, 0, [], v2, o2, hlt, rfl, by rw [HWI.out], ⟨Nat.le_refl _⟩, ⟨nilC⟩, ⟨HW2.out.drop⟩, ⟨hb⟩⟩
            case measure => rw [HWI.out]; simp only [intOf, Int.toNat_natCast]; omega
    · have hcut : decide ((i : Int) < (l0.length : Int)) = false := decide_eq_false (by omega)
      obtain rfl : i = l0.length := by omega
      have hb : putO out 2 late = some r := by
        have h := HB.out
        rw [List.drop_of_length_le (Nat.le_refl _)] at h
        exact h
      unfold putO at hb
      split at hb
      case isFalse => cases hb
      rename_i hG
      simp only [Option.some.injEq] at hb
      have HBB := Aside0.mk hb
      have HG := Aside0.mk hG
      clear hb hG
      go_wp2_with fail
      refine (edit_writer_put.calls w.heap.size _ v out 2 AL cL late w _ HW.out (Kd.C_below HL.out HW.out.below) HCL.out HG.out.1 HG.out.2.1 HG.out.2.2).mono ?_
      rintro e w2 ⟨rfl, ⟨v', hW'⟩, _⟩
      have HW2 := Aside0.mk hW'
      clear hW' HW
      have hk0 := (blk_cell HW2.out.blk 0).trans (show _ = some v' from rfl)
      obtain ⟨A2, n2, c2, rfl⟩ : ∃ A n c, v' = Value.slice A n c := by obtain ⟨A, c, h⟩ := Kd.S_slice HW2.out.own; exact ⟨A, _, c, h⟩
      go_wp2
      go_ret
      rw [← HBB.out]
      exact ⟨_, rfl, Kd.S_mono HW2.out.own (fun _ _ => trivial), HW2.out.below⟩
end Go.Proofs.Ytadafplbgophfaa.PA
end
section
/- What the map of lines.Number holds: the texts that are known, each with its number. -/
namespace Go.Proofs.Ytadafplbgophfaa.PA
open Go.Maps
section
variable {H : Type}
structure Knows (D : DataW H) (known : List (List UInt8)) : Prop where
  tidy : Tidy D
  isMap : IsMap D
  size : Maps.size D = known.length
  has : ∀ s, Maps.has D (.string s) = decide (s ∈ known)
  at_ : ∀ j (h : j < known.length), D.atKey (.string known[j]) (.lit (.int .i64 0)) = .lit (.int .i64 j)
theorem Knows.put {D : DataW H} {known : List (List UInt8)} (h : Knows D known) {s : List UInt8} (hs : s ∉ known) (ht : Tidy (D.put (.string s) (.lit (.int .i64 (known.length : Int))))) (hm : IsMap (D.put (.string s) (.lit (.int .i64 (known.length : Int))))) : Knows (D.put (.string s) (.lit (.int .i64 (known.length : Int)))) (known ++ [s]) := by
  refine ⟨ht, hm, ?_, fun u => ?_, fun j hj => ?_⟩
  · rw [size_put h.tidy, h.has, decide_eq_false hs, h.size]; simp
  · by_cases e : u = s
    · subst e
      rw [has_put_same h.isMap (by first | trivial | exact ⟨_, rfl⟩ | simp [WideAt.IsKeyLit])]
      simp
    · rw [has_put_other (by intro h; injection h with h; exact e h), h.has]
      simp [e]
  · by_cases hj' : j < known.length
    · have e : known[j] ≠ s := fun e => hs (e ▸ List.getElem_mem hj')
      rw [List.getElem_append_left hj', atKey_put_other (by intro h; injection h with h; exact e h)]
      exact h.at_ j hj'
    · have : j = known.length := by simp at hj; omega
      subst this
      rw [List.getElem_append_right (Nat.le_refl _)]
      simp only [Nat.sub_self, List.getElem_cons_zero]
      rw [atKey_put_same h.isMap (by first | trivial | exact ⟨_, rfl⟩ | simp [WideAt.IsKeyLit])]
end
end Go.Proofs.Ytadafplbgophfaa.PA
end
section
/- lines.Number, walked by hand: each text's number, in the order in which the texts come up. -/
namespace Go.Proofs.Ytadafplbgophfaa.PA
set_option linter.unusedSimpArgs false
set_option linter.unusedVariables false
open Go.RowKit Go.Proofs.YtadafplbgophfaaW.PrintWords Go.Proofs.YtadafplbgophfaaW.PrintLast Go.Proofs.YtadafplbgophfaaW.PrintMore

def grow (known : List (List UInt8)) (s : ByteArray) : List (List UInt8) := if s.data.toList ∈ known then known else known ++ [s.data.toList]
def numFile (known : List (List UInt8)) : List ByteArray → List Int × List (List UInt8)
  | [] => ([], known)
  | s :: l =>
    let r := numFile (grow known s) l
    ((known.idxOf s.data.toList : Int) :: r.1, r.2)
def numAll (known : List (List UInt8)) : List (List ByteArray) → List (List Int)
  | [] => []
  | f :: fs => (numFile known f).1 :: numAll (numFile known f).2 fs
def texts : List (List ByteArray) → Nat
  | [] => 0
  | f :: fs => f.length + texts fs
theorem knows_idx {H : Type} {D : DataW H} {known : List (List UInt8)} (h : Knows D known) {s : List UInt8} (hs : s ∈ known) : D.atKey (.string s) (.lit (.int .i64 0)) = .lit (.int .i64 (known.idxOf s : Int)) := by
  have hlt := List.idxOf_lt_length_of_mem hs
  have := h.at_ (known.idxOf s) hlt
  rwa [List.getElem_idxOf hlt] at this
theorem knows_nil {H : Type} (ht : Maps.Tidy (.map [] : DataW H)) (hm : Maps.IsMap (.map [] : DataW H)) : Knows (.map [] : DataW H) [] := ⟨ht, hm, rfl, fun s => by simp [Maps.has], fun j h => by simp at h⟩
theorem idx_new {known : List (List UInt8)} {s : List UInt8} (h : s ∉ known) : known.idxOf s = known.length := List.idxOf_eq_length h
theorem numFile_len : ∀ (f : List ByteArray) (known : List (List UInt8)), (numFile known f).2.length ≤ known.length + f.length
  | [], known => by simp [numFile]
  | s :: l, known => by
    have := numFile_len l (grow known s)
    have h2 : (grow known s).length ≤ known.length + 1 := by unfold grow; split <;> simp
    simp only [numFile, List.length_cons]
    omega
def Fits86 (l0 : List (List ByteArray)) : Prop := l0.length ≤ 1000000000 ∧ texts l0 ≤ 1000000000 ∧ ∀ f ∈ l0, ∀ s ∈ f, s.size ≤ maxLen
instance (l0 : List (List ByteArray)) : Decidable (Fits86 l0) := by unfold Fits86; exact inferInstance
def lines_Number.f (_k : Nat) (l0 : List (List ByteArray)) : Option (List (List Int)) := if Fits86 l0 then some (numAll [] l0) else none
theorem lines_Number.mono : ∀ a0 k, LeO (lines_Number.f k a0) (lines_Number.f (k + 1) a0) := fun _ _ => LeO.refl _

/-- Where the inner loop stands. -/
structure In86 (w W : World) (N : Nat) (f : List ByteArray) (out : List (List Int)) (v4 v7 : Value) (kn0 kn : List (List UInt8)) (j : Nat) (l : List Int) (rest : Nat) (D : DataW Unit) : Prop where
  below : Below w.heap.size w W
  size : N ≤ W.heap.size
  base : w.heap.size < N
  map : W.ownsMap Try.prog 9 (plainElem Try.prog 3) w.heap.size kn.length D
  knows : Knows D kn
  outR : Kd.R (Kd.slice 3 (Kd.int .i64)) 22 W w.heap.size (fun k => k ≠ w.heap.size ∧ k < N) v4 out
  row : Kd.R (Kd.int .i64) 3 W N (fun k => k ≠ w.heap.size) v7 l
  len : l.length = j
  room : kn.length + (f.length - j) + rest ≤ 1000000000
  flen : f.length ≤ 1000000000
  one : l ++ (numFile kn (f.drop j)).1 = (numFile kn0 f).1
  two : (numFile kn (f.drop j)).2 = (numFile kn0 f).2
theorem In86.start {w W : World} {f : List ByteArray} {out : List (List Int)} {v4 : Value} {kn : List (List UInt8)} {rest : Nat} {D : DataW Unit} (hb : Below w.heap.size w W) (hm : W.ownsMap Try.prog 9 (plainElem Try.prog 3) w.heap.size kn.length D) (hk : Knows D kn)
    (ho : Kd.R (Kd.slice 3 (Kd.int .i64)) 22 W w.heap.size (fun k => k ≠ w.heap.size) v4 out) (hr : kn.length + (f.length + rest) ≤ 1000000000) : In86 w W W.heap.size f out v4 (.slice none 0 0) kn kn 0 [] rest D :=
  ⟨hb, Nat.le_refl _, hm.lt, hm, hk, Kd.R_mono (Kd.R_bound ho) (fun k hk => ⟨hk.1, hk.2.2.1⟩), Kd.R_nil _ _ _ _ _, rfl, by omega, by omega, rfl, rfl⟩
/-- the row l grows by an append -/
theorem In86.step {w W W1 : World} {N : Nat} {f : List ByteArray} {out : List (List Int)} {v4 v7 v8 : Value} {kn0 kn : List (List UInt8)} {j : Nat} {l l1 : List Int} {rest : Nat} {D : DataW Unit} (h : In86 w W N f out v4 v7 kn0 kn j l rest D)
    (hrow : Kd.R (Kd.int .i64) 3 W1 N (fun k => k ≠ w.heap.size) v8 l1) (hb : Below N W W1) (hg : W.grownBy W1 v7.ownBlock) : Below w.heap.size w W1 ∧ N ≤ W1.heap.size ∧ W1.ownsMap Try.prog 9 (plainElem Try.prog 3) w.heap.size kn.length D ∧ Kd.R (Kd.slice 3 (Kd.int .i64)) 22 W1 w.heap.size (fun k => k ≠ w.heap.size ∧ k < N) v4 out := by
  have hb7 := Kd.R_base h.row
  have h1 := h.base
  refine ⟨pw_below_grown h.below _ h.below.size hg (fun k hk => by have := hb7 k hk; omega), Nat.le_trans h.size hg.size, h.map.kept hg (fun e => by have := hb7 _ e.symm; omega), Kd.R_grown h.outR hg (fun k hk e => by have := hb7 _ e.symm; omega)⟩
/-- the map grows -/
theorem In86.turn {w W W1 : World} {N : Nat} {f : List ByteArray} {out : List (List Int)} {v4 v7 : Value} {kn0 kn : List (List UInt8)} {j : Nat} {l : List Int} {rest : Nat} {D : DataW Unit} (h : In86 w W N f out v4 v7 kn0 kn j l rest D)
    (ht : W.mapTurned W1 w.heap.size) : Below w.heap.size w W1 ∧ N ≤ W1.heap.size ∧ Kd.R (Kd.slice 3 (Kd.int .i64)) 22 W1 w.heap.size (fun k => k ≠ w.heap.size ∧ k < N) v4 out ∧ Kd.R (Kd.int .i64) 3 W1 N (fun k => k ≠ w.heap.size) v7 l := by
  have hg := ht.grown
  refine ⟨pw_below_grown h.below _ h.below.size hg (fun k hk => by cases hk; exact Nat.le_refl _), Nat.le_trans h.size hg.size, Kd.R_grown h.outR hg (fun k hk e => by cases e; exact hk.1 rfl), Kd.R_grown h.row hg (fun k hk e => by cases e; exact hk rfl)⟩

theorem In86.next {w W W1 W2 : World} {N : Nat} {f : List ByteArray} {out : List (List Int)} {v4 v7 v8 : Value} {kn0 kn : List (List UInt8)} {j : Nat} {l : List Int} {rest : Nat} {D D1 : DataW Unit} {s : ByteArray} (h : In86 w W N f out v4 v7 kn0 kn j l rest D) (hj : j < f.length)
    (hd : f.drop j = s :: f.drop (j + 1)) (hb1 : Below w.heap.size w W1) (hz1 : N ≤ W1.heap.size) (hm1 : W1.ownsMap Try.prog 9 (plainElem Try.prog 3) w.heap.size (grow kn s).length D1) (hk1 : Knows D1 (grow kn s)) (ho1 : Kd.R (Kd.slice 3 (Kd.int .i64)) 22 W1 w.heap.size (fun k => k ≠ w.heap.size ∧ k < N) v4 out)
    (hr1 : Kd.R (Kd.int .i64) 3 W1 N (fun k => k ≠ w.heap.size) v7 l) (hr2 : Kd.R (Kd.int .i64) 3 W2 N (fun k => k ≠ w.heap.size) v8 (l ++ [(kn.idxOf s.data.toList : Int)])) (hb2 : Below N W1 W2) (hg2 : W1.grownBy W2 v7.ownBlock) :
    In86 w W2 N f out v4 v8 kn0 (grow kn s) (j + 1) (l ++ [(kn.idxOf s.data.toList : Int)]) rest D1 := by
  have hb7 := Kd.R_base hr1
  have h1 := h.base
  have hgl : (grow kn s).length ≤ kn.length + 1 := by unfold grow; split <;> simp
  have hone := h.one
  have htwo := h.two
  rw [hd] at hone htwo
  refine ⟨pw_below_grown hb1 _ hb1.size hg2 (fun k hk => by have := hb7 k hk; omega), Nat.le_trans hz1 hg2.size, h.base, hm1.kept hg2 (fun e => by have := hb7 _ e.symm; omega), hk1, Kd.R_grown ho1 hg2 (fun k hk e => by have := hb7 _ e.symm; omega), hr2, by simp [h.len], by have := h.room; omega, h.flen, ?_, ?_⟩
  · rw [List.append_assoc]; exact hone
  · exact htwo
theorem In86.stop {w W : World} {N : Nat} {f : List ByteArray} {out : List (List Int)} {v4 v7 : Value} {kn0 kn : List (List UInt8)} {l : List Int} {rest : Nat} {D : DataW Unit} (h : In86 w W N f out v4 v7 kn0 kn f.length l rest D) : l = (numFile kn0 f).1 ∧ kn = (numFile kn0 f).2 := by
  have h1 := h.one
  have h2 := h.two
  rw [List.drop_of_length_le (Nat.le_refl _)] at h1 h2
  simp only [numFile, List.append_nil] at h1 h2
  exact ⟨h1, h2⟩
set_option maxHeartbeats 4000000 in
set_option maxRecDepth 100000 in
theorem lines_Number.calls (k : Nat) (A0 : Option Addr) (c0 : Nat) (l0 : List (List ByteArray)) (r : List (List Int)) (w : World) (hr0 : Kd.C (Kd.slice 9 Kd.string) w A0 l0.length l0) (hc0 : l0.length ≤ c0) (h : lines_Number.f k l0 = some r) :
    Calls Try.prog 86 #[.slice A0 l0.length c0] w fun e w' => ∃ v0_ : Value, e = .returned v0_ ∧ Kd.R (Kd.slice 3 (Kd.int .i64)) 22 w' w.heap.size (fun _ => True) v0_ r ∧ Below w.heap.size w w' := by
  unfold lines_Number.f at h
  split at h
  case isFalse => cases h
  rename_i hfits
  simp only [Option.some.injEq] at h
  subst h
  have hu194 := Try.underlying194
  have hu134 := Try.underlying134
  have HR0 := Aside0.mk hr0
  have HC0 := Aside0.mk hc0
  have HF := Aside0.mk hfits
  clear hr0 hc0 hfits
  have hmk := fun W : World => run_makeMap (P := Try.prog) 194 W
  go_enter Try.func86, Try.ntmps86
  go_wp2
  go_loopw [4, 15] (fun v4 v15 wr => ∃ (i : Nat) (out : List (List Int)) (D : DataW Unit) (kn : List (List UInt8)), i ≤ l0.length ∧ v15 = .int .i64 (i : Int) ∧ Aside0 (Below w.heap.size w wr) ∧ Aside0 (wr.ownsMap Try.prog 9 (plainElem Try.prog 3) w.heap.size kn.length D) ∧ Aside0 (Knows D kn) ∧ Aside0 (Kd.R (Kd.slice 3 (Kd.int .i64)) 22 wr w.heap.size (fun k => k ≠ w.heap.size) v4 out) ∧ Aside0 (out ++ numAll kn (l0.drop i) = numAll [] l0) ∧ Aside0 (out.length = i) ∧ Aside0 (kn.length + texts (l0.drop i) ≤ 1000000000)) (fun _ v15 _ => l0.length - (intOf v15).toNat)
  case atStart =>
    exact ⟨0, [], .map [], [], Nat.zero_le _, rfl, ⟨below_alloc (Below.refl _ _) _⟩, ⟨World.ownsMap_made w Try.prog 9 _⟩, ⟨knows_nil Maps.tidy_empty Maps.isMap_empty⟩, ⟨Kd.R_nil _ _ _ _ _⟩, ⟨rfl⟩, ⟨rfl⟩, ⟨by have := HF.out.2.1; simpa using this⟩⟩
  case round =>
    obtain ⟨i, out, D, kn, hi, rfl, HB, HM, HK, HO, HE, HOL, HRM⟩ := hrel
    by_cases hlt : i < l0.length
    · have p0 : (0 : Int) ≤ (i : Int) := by omega
      have q0 : (i : Int) < (l0.length : Int) := by omega
      obtain ⟨ad, A1, c1, eA, hx, hl1, hr1⟩ := at_L7 HR0.out (i : Int) p0 q0
      cases eA
      replace hx := (HB.out.cell (World.block_lt_of_cell? w _ hx)).trans hx
      have hrd : rd_L7 l0 (i : Int) = l0[i] := by simp [rd_L7, List.getD_eq_getElem?_getD, hlt]
      rw [hrd, Int.toNat_natCast] at hx
      rw [hrd] at hl1 hr1
      have he := HE.out
      have hrm := HRM.out
      rw [List.drop_eq_getElem_cons hlt] at he hrm
      have hsz := HF.out.2.2 l0[i] (List.getElem_mem hlt)
      generalize l0[i] = f at hx hl1 hr1 he hrm hsz
      have HL1 := Aside0.mk hl1
      have HR1 := Aside0.mk hr1
      have HE1 := Aside0.mk he
      have HRM1 := Aside0.mk hrm
      have HSZ := Aside0.mk hsz
      clear hl1 hr1 he HE hrd hrm HRM hsz
      have hcut : decide ((i : Int) < (l0.length : Int)) = true := decide_eq_true q0
      go_wp2
      have HN : Aside0 (wr.heap.size = wr.heap.size) := ⟨rfl⟩
      obtain ⟨N, HN⟩ : ∃ N, Aside0 (wr.heap.size = N) := ⟨_, ⟨rfl⟩⟩
      go_loopw [7, 21] (fun v7 v21 W => ∃ (j : Nat) (l : List Int) (D2 : DataW Unit) (kn2 : List (List UInt8)), j ≤ f.length ∧ v21 = .int .i64 (j : Int) ∧ Aside0 (In86 w W N f out u4 v7 kn kn2 j l (texts (l0.drop (i + 1))) D2)) (fun _ v21 _ => f.length - (intOf v21).toNat)
      case atStart =>
        refine ⟨0, [], D, kn, Nat.zero_le _, rfl, ⟨?_⟩⟩
        rw [← HN.out]
        exact In86.start HB.out HM.out HK.out HO.out (by have := HRM1.out; simp only [texts] at this; omega)
      case round =>
        obtain ⟨j, l, D2, kn2, hj, rfl, HI⟩ := hrel
        by_cases hjt : j < f.length
        · have p1 : (0 : Int) ≤ (j : Int) := by omega
          have q1 : (j : Int) < (f.length : Int) := by omega
          obtain ⟨ad1, e1, hx1⟩ := Kd.at_string HR1.out (j : Int) p1 q1
          cases e1
          replace hx1 := (HI.out.below.cell (World.block_lt_of_cell? w _ hx1)).trans hx1
          have hrd1 : rdOf ByteArray.empty f (j : Int) = f[j] := by simp [rdOf, List.getD_eq_getElem?_getD, hjt]
          rw [hrd1, Int.toNat_natCast] at hx1
          have HD := Aside0.mk (List.drop_eq_getElem_cons hjt)
          have hs1 := HSZ.out _ (List.getElem_mem hjt)
          generalize f[j] = s at hx1 HD hs1
          have hkey : keyOf Try.prog 9 (.string s) = some (.string s.data.toList) := WideMaps.keyOf_string_mk Try.underlying9 hs1
          have HKEY := Aside0.mk hkey
          have hjc : decide ((j : Int) < (f.length : Int)) = true := decide_eq_true q1
          have HH := Aside0.mk (HI.out.knows.has s.data.toList)
          clear hkey hs1 hrd1
          by_cases hmem : s.data.toList ∈ kn2
          · have hh : Maps.has D2 (.string s.data.toList) = true := HH.out.trans (decide_eq_true hmem)
            have hfl := HI.out.flen
            have HAT := Aside0.mk (knows_idx HI.out.knows hmem)
            go_wp2_with (first | (at_lookup; refine wpList_lookup_own_ok_int _ rfl _ _ 194 rfl 9 3 .i64 (Maps.string_keyed Try.underlying9) Try.underlying194 Try.underlying3 (by first | rfl | kernel_rfl | (go_simp; done)) w.heap.size kn2.length D2 rfl HI.out.map _ _ rfl HKEY.out ?_; intro c hat hwc; have hce : c = (kn2.idxOf s.data.toList : Int) := (by have e := hat.symm.trans HAT.out; injection e with e; injection e with e1 e2); have HCE := Aside0.mk hce; clear hat hwc hce) | (at_builtin; refine Kd.R_append (Kd.int .i64) (w0 := wr) N rfl (.tmp 38) (.tmp 40) 22 3 (.int .i64 0) 8 rfl Try.underlying22 info3 rfl (by decide) (by decide) u7 l c [.int .i64 c] (fun j => j ≠ w.heap.size) (fun _ => False) rfl rfl rfl (fun _ hk => hk.elim) ?aF HI.out.row (Below.refl _ _) HI.out.size ?aL ?_; (case aF => exact fun j hj => by have := HI.out.base; have := HI.out.size; omega); (case aL => have := HI.out.len; have := HI.out.flen; omega); intro v2 w2 ho hb2 hg2 hat2; have HO2 := Aside0.mk ho; have HB2 := Aside0.mk hb2; have HG2 := Aside0.mk hg2; clear ho hb2 hg2 hat2))
            go_roundw
            case rel =>
              refine ⟨j + 1, _, _, _, hjt, by go_num, ⟨HI.out.next hjt HD.out HI.out.below HI.out.size (D1 := D2) ?_ ?_ HI.out.outR HI.out.row ?_ HB2.out HG2.out⟩⟩
              · have e : grow kn2 s = kn2 := by unfold grow; rw [if_pos hmem]
                rw [e]; exact HI.out.map
              · have e : grow kn2 s = kn2 := by unfold grow; rw [if_pos hmem]
                rw [e]; exact HI.out.knows
              · rw [← HCE.out]; exact HO2.out
            case measure => simp [intOf]; omega
          · have hh : Maps.has D2 (.string s.data.toList) = false := HH.out.trans (decide_eq_false hmem)
            have hlr : ∀ ty : TypeId, (Builtin.len_ #[194] ty #[.map (some w.heap.size)]).run Try.prog wr = .ok (.int .i64 (kn2.length : Int)) wr := fun ty => by rw [← HI.out.knows.size]; exact HI.out.map.len Try.underlying194 ty
            have hlt2 : kn2.length ≤ 1000000000 := by have := HI.out.room; omega
            have hfl := HI.out.flen
            have hpl : Aside0 (plainElem (H := Unit) Try.prog 3 (.int .i64 (kn2.length : Int)) = some (.lit (.int .i64 (kn2.length : Int)), [])) := ⟨plainElem_int Try.underlying3 (by simp only [Lit.wf, IntKind.min, IntKind.max, IntKind.bits, IntKind.signed, Bool.and_eq_true, decide_eq_true_eq]; constructor <;> omega)⟩
            go_wp2_with (first | (at_lookup; refine wpList_lookup_own_ok_int _ rfl _ _ 194 rfl 9 3 .i64 (Maps.string_keyed Try.underlying9) Try.underlying194 Try.underlying3 (by first | rfl | kernel_rfl | (go_simp; done)) w.heap.size kn2.length D2 rfl HI.out.map _ _ rfl HKEY.out ?_; intro c hat hwc; clear hat hwc) | (at_mapUpdate; refine wpList_mapUpdate_in _ rfl _ _ _ 194 rfl 9 3 (Maps.string_keyed Try.underlying9) Try.underlying194 (plainElem Try.prog 3) w.heap.size kn2.length D2 rfl HI.out.map (by unfold maxLen; omega) _ _ _ rfl rfl HKEY.out (.lit (.int .i64 (kn2.length : Int))) [] hpl.out ?_; intro w1 hown1 hturn1; obtain ⟨hb1, hz1, ho1, hr1⟩ := HI.out.turn hturn1; have HB1 := Aside0.mk hb1; have HZ1 := Aside0.mk hz1; have HO1 := Aside0.mk ho1; have HR1' := Aside0.mk hr1; have HT1 := Aside0.mk (World.ownsMap.tidy hown1 (Maps.string_keyed Try.underlying9)); have HIM1 := Aside0.mk (World.ownsMap.isMap hown1); have HOWN1 := Aside0.mk hown1; clear hb1 hz1 ho1 hr1 hturn1 hown1) | (at_builtin; refine Kd.R_append (Kd.int .i64) (w0 := w1) N rfl (.tmp 38) (.tmp 40) 22 3 (.int .i64 0) 8 rfl Try.underlying22 info3 rfl (by decide) (by decide) u7 l (kn2.length : Int) [.int .i64 (kn2.length : Int)] (fun j => j ≠ w.heap.size) (fun _ => False) rfl rfl rfl (fun _ hk => hk.elim) ?aF HR1'.out (Below.refl _ _) HZ1.out ?aL ?_; (case aF => exact fun j hj => by have := HI.out.base; have := HZ1.out; omega); (case aL => have := HI.out.len; have := HI.out.flen; omega); intro v2 w2 ho hb2 hg2 hat2; have HO2 := Aside0.mk ho; have HB2 := Aside0.mk hb2; have HG2 := Aside0.mk hg2; clear ho hb2 hg2 hat2))
            go_roundw
            case rel =>
              refine ⟨j + 1, _, _, _, hjt, by go_num, ⟨HI.out.next hjt HD.out HB1.out HZ1.out (D1 := D2.put (.string s.data.toList) (.lit (.int .i64 (kn2.length : Int)))) ?_ ?_ HO1.out HR1'.out ?_ HB2.out HG2.out⟩⟩
              · have e : (grow kn2 s).length = kn2.length + 1 := by unfold grow; rw [if_neg hmem]; simp
                rw [e]; exact HOWN1.out
              · have e : grow kn2 s = kn2 ++ [s.data.toList] := by unfold grow; rw [if_neg hmem]
                rw [e]; exact HI.out.knows.put hmem HT1.out HIM1.out
              · rw [idx_new hmem]; exact HO2.out
            case measure => simp [intOf]; omega
        · obtain rfl : j = f.length := by omega
          have hjc : decide ((f.length : Int) < (f.length : Int)) = false := decide_eq_false (by omega)
          have hil : i < 1000000000 := by have := HF.out.1; omega
          have hl1 : l0.length ≤ 1000000000 := HF.out.1
          have HST := Aside0.mk HI.out.stop
          obtain ⟨A7, n7, c7, rfl⟩ : ∃ A n c, u7 = Value.slice A n c := by obtain ⟨A, c, h⟩ := Kd.R_slice HI.out.row; exact ⟨A, _, c, h⟩
          obtain ⟨A4, n4, c4, rfl⟩ : ∃ A n c, u4 = Value.slice A n c := by obtain ⟨A, c, h⟩ := Kd.R_slice HI.out.outR; exact ⟨A, _, c, h⟩
          go_wp2_with (at_builtin; refine Kd.R_append (Kd.slice 3 (Kd.int .i64)) (w0 := wr) w.heap.size rfl (.tmp 43) (.tmp 45) 134 22 (.slice none 0 0) 24 rfl Try.underlying134 info22 rfl (by decide) (by decide) (.slice A4 n4 c4) out l [.slice A7 n7 c7] (fun j => j ≠ w.heap.size) (fun k => k ≠ w.heap.size ∧ N ≤ k) rfl rfl ?aP ?aK ?aF ?aO (Below.refl _ _) ?aB ?aL ?_; (case aP => exact ⟨.slice A7 n7 c7, rfl, Kd.R_lower (Kd.R_mono (Kd.R_bound HI.out.row) (fun k hk => ⟨hk.1, hk.2.1⟩)) (Nat.le_of_lt HI.out.base)⟩); (case aK => exact fun k hk => ⟨hk.1, fun e => by have := (HI.out.outR.1 k e.symm).2; omega⟩); (case aF => exact fun j hj => by have := HI.out.base; have := HI.out.size; omega); (case aO => exact Kd.R_mono HI.out.outR (fun k hk => hk.1)); (case aB => have := HI.out.base; have := HI.out.size; omega); (case aL => have := HOL.out; omega); intro v2 w2 ho hb2 hg2 hat2; have HO2 := Aside0.mk ho; have HB2 := Aside0.mk hb2; have HG2 := Aside0.mk hg2; clear ho hb2 hg2 hat2)
          go_roundw
          case rel =>
            refine ⟨i + 1, _, D2, kn2, hlt, by go_num, ⟨HI.out.below.trans HB2.out⟩, ⟨HI.out.map.kept HG2.out (fun e => (HI.out.outR.1 _ e.symm).1 rfl)⟩, ⟨HI.out.knows⟩, HO2, ⟨?_⟩, ⟨?_⟩, ⟨?_⟩⟩
            · have := HE1.out
              rw [List.append_assoc, HST.out.1, HST.out.2]
              simpa [numAll] using this
            · simp [HOL.out]
            · have := HI.out.room
              omega
          case measure => simp [intOf]; omega
    · have hcut : decide ((i : Int) < (l0.length : Int)) = false := decide_eq_false (by omega)
      obtain rfl : i = l0.length := by omega
      go_wp2
      go_ret
      have he := HE.out
      rw [List.drop_of_length_le (Nat.le_refl _)] at he
      have he2 : out = numAll [] l0 := by simpa [numAll] using he
      rw [← he2]
      exact ⟨_, rfl, Kd.R_mono HO.out (fun _ _ => trivial), HB.out⟩
end Go.Proofs.Ytadafplbgophfaa.PA
end
section
-- Written by a program of this seat out of the translation. Not trusted: Lean checks it.
namespace Go.Proofs.Ytadafplbgophfaa.PA
open Go.RowKit Go.Proofs.YtadafplbgophfaaW.PrintWords Go.Proofs.YtadafplbgophfaaW.PrintLast Go.Proofs.YtadafplbgophfaaW.PrintMore
attribute [local go_sem] max2_int min2_int max_two min_two max_three min_three max_four min_four   -- for this text's walks alone
set_option linter.unusedVariables false
set_option linter.unusedSimpArgs false

/-! ### lcs_Right: function 31 -/
def lcs_Right.l0 : Nat → List Int → List Int → List (S39) → Int → Int → Int → Int → Option (Bool)
  | 0, _, _, _, _, _, _, _ => none
  | k + 1, x0, x1, x11, x12, x13, x102000, x102001 => if x13 < x12 then (if 0 ≤ x13 then (if x13 < (x11.length : Int) then (if ((rd_T39 x11 x13).f0) ≤ x102000 then (some false) else (if ((rd_T39 x11 x13).f1) ≤ x102001 then (some false) else (if ((rd_T39 x11 x13).f0) ≥ (x0.length : Int) then (some false) else (if ((rd_T39 x11 x13).f1) ≥ (x1.length : Int) then (some false) else (if 0 ≤ ((rd_T39 x11 x13).f0) then (if ((rd_T39 x11 x13).f0) < (x0.length : Int) then (if 0 ≤ ((rd_T39 x11 x13).f1) then (if ((rd_T39 x11 x13).f1) < (x1.length : Int) then (if (rd x0 ((rd_T39 x11 x13).f0)) = (rd x1 ((rd_T39 x11 x13).f1)) then (lcs_Right.l0 k x0 x1 x11 x12 (wrap64 (x13 + 1)) ((rd_T39 x11 x13).f0) ((rd_T39 x11 x13).f1)) else (some false)) else (none)) else (none)) else (none)) else (none)))))) else (none)) else (none)) else (some true)
def lcs_Right.f (k : Nat) (l0 : List Int) (l1 : List Int) (l2 : List (S39)) : Option (Bool) := lcs_Right.l0 k l0 l1 l2 (l2.length : Int) 0 (-1) (-1)
theorem lcs_Right.mono_l : ∀ k, (∀ y0 y1 y2 y3 y4 y5 y6, LeO (lcs_Right.l0 k y0 y1 y2 y3 y4 y5 y6) (lcs_Right.l0 (k + 1) y0 y1 y2 y3 y4 y5 y6))
  | 0 => fun _ _ _ _ _ _ _ r h => by simp [lcs_Right.l0] at h
  | k + 1 => by
    have ih0 := lcs_Right.mono_l k
    · intro y0 y1 y2 y3 y4 y5 y6
      unfold lcs_Right.l0
      repeat' first
      | (with_reducible exact ih0 _ _ _ _ _ _ _)
      | (with_reducible exact LeO.refl _)
      | (with_reducible exact LeO.none _)
      | (with_reducible refine LeO.ite ?_ ?_)
      | (with_reducible refine LeO.bind ?_ (fun _ => ?_))
      | exact ih0 _ _ _ _ _ _ _
      | exact LeO.none _
      | refine LeO.ite ?_ ?_
      | refine LeO.bind ?_ (fun _ => ?_)
theorem lcs_Right.mono : ∀ a0 a1 a2 k, LeO (lcs_Right.f k a0 a1 a2) (lcs_Right.f (k + 1) a0 a1 a2) := by
  intro a0 a1 a2 k
  have ih0 := lcs_Right.mono_l k
  unfold lcs_Right.f
  repeat' first
      | (with_reducible exact ih0 _ _ _ _ _ _ _)
      | (with_reducible exact LeO.refl _)
      | (with_reducible exact LeO.none _)
      | (with_reducible refine LeO.ite ?_ ?_)
      | (with_reducible refine LeO.bind ?_ (fun _ => ?_))
      | exact ih0 _ _ _ _ _ _ _
      | exact LeO.none _
      | refine LeO.ite ?_ ?_
      | refine LeO.bind ?_ (fun _ => ?_)
set_option maxHeartbeats 8000000 in
set_option maxRecDepth 100000 in
theorem lcs_Right.calls (k : Nat) (A0 : Option Addr) (c0 : Nat) (l0 : List Int) (A1 : Option Addr) (c1 : Nat) (l1 : List Int) (A2 : Option Addr) (c2 : Nat) (l2 : List (S39)) (r : Bool) (w : World) (hr0 : Kd.C (Kd.int .i64) w A0 l0.length l0) (hc0 : l0.length ≤ c0) (hr1 : Kd.C (Kd.int .i64) w A1 l1.length l1) (hc1 : l1.length ≤ c1) (hr2 : Kd.C k39 w A2 l2.length l2) (hc2 : l2.length ≤ c2) (h : lcs_Right.f k l0 l1 l2 = some r) :
    Calls Try.prog 31 #[.slice A0 l0.length c0, .slice A1 l1.length c1, .slice A2 l2.length c2] w fun e w' => e = .returned (.bool r) ∧ Below w.heap.size w w' := by
  have hu39 := Try.underlying39
  have HR0 := Aside0.mk hr0
  have HC0 := Aside0.mk hc0
  clear hr0 hc0
  have HR1 := Aside0.mk hr1
  have HC1 := Aside0.mk hc1
  clear hr1 hc1
  have HR2 := Aside0.mk hr2
  have HC2 := Aside0.mk hc2
  clear hr2 hc2
  have HB := Aside0.mk (Below.refl w.heap.size w)
  have H : (lcs_Right.l0 k l0 l1 l2 (l2.length : Int) 0 (-1) (-1)) = some r := h
  clear h
  have H' := Aside0.mk H
  clear H
  go_enter Try.func31, Try.ntmps31
  go_wp2_with (first | ((with_reducible refine gate_dst (N := 7) rfl ?_); (try (refine gate_guard (by rfl) ?_; dsimp only)); refine box_event ?hg (N := 7) ?hd (cs := #[.int .i64 0, .int .i64 0]) (t := 39) ?hr ?_; (case hd => rfl); (case hg => rfl); (case hr => first | (go_simp; done) | (go_simp; rfl)); intro gb101 hg w4 hbox hb; have n0_ := Aside0.mk (below_step (by repeat (first | (with_reducible first | exact HB.out | apply below_alloc | apply pw_below_drewN | apply below_drew1) | exact HB.out)) hb); have n1_ := Aside0.mk (hbox); have n2_ := Aside0.mk ((by rw [hg]; exact (below_size (by repeat (first | (with_reducible first | exact HB.out | apply below_alloc | apply pw_below_drewN | apply below_drew1) | exact HB.out))) : w.heap.size ≤ gb101)); have n3_ := Aside0.mk ((by rw [hg]; exact (below_size (by repeat (first | (with_reducible first | exact HB.out | apply below_alloc | apply pw_below_drewN | apply below_drew1) | exact HB.out))) : w.heap.size ≤ gb101)); clear HB; have HB := n0_; have BK101 := n1_; have GW101 := n2_; have GE101 := n3_; clear n0_ n1_ n2_ n3_; clear hb hbox hg; have hcz5_0 : w4.cell? ⟨gb101, 0, none⟩ = some (.int .i64 0) := (blk_cell BK101.out 0).trans rfl; have hcz5_1 : w4.cell? ⟨gb101, 1, none⟩ = some (.int .i64 0) := (blk_cell BK101.out 1).trans rfl; have hfz5_0 := blk_frozen BK101.out 0; have hfz5_1 := blk_frozen BK101.out 1))
  repeat (go_quiet (first | ((with_reducible refine gate_dst (N := 7) rfl ?_); (try (refine gate_guard (by rfl) ?_; dsimp only)); refine box_event ?hg (N := 7) ?hd (cs := #[.int .i64 0, .int .i64 0]) (t := 39) ?hr ?_; (case hd => rfl); (case hg => rfl); (case hr => first | (go_simp; done) | (go_simp; rfl)); intro gb101 hg w4 hbox hb; have n0_ := Aside0.mk (below_step (by repeat (first | (with_reducible first | exact HB.out | apply below_alloc | apply pw_below_drewN | apply below_drew1) | exact HB.out)) hb); have n1_ := Aside0.mk (hbox); have n2_ := Aside0.mk ((by rw [hg]; exact (below_size (by repeat (first | (with_reducible first | exact HB.out | apply below_alloc | apply pw_below_drewN | apply below_drew1) | exact HB.out))) : w.heap.size ≤ gb101)); have n3_ := Aside0.mk ((by rw [hg]; exact (below_size (by repeat (first | (with_reducible first | exact HB.out | apply below_alloc | apply pw_below_drewN | apply below_drew1) | exact HB.out))) : w.heap.size ≤ gb101)); clear HB; have HB := n0_; have BK101 := n1_; have GW101 := n2_; have GE101 := n3_; clear n0_ n1_ n2_ n3_; clear hb hbox hg; have hcz5_0 : w4.cell? ⟨gb101, 0, none⟩ = some (.int .i64 0) := (blk_cell BK101.out 0).trans rfl; have hcz5_1 : w4.cell? ⟨gb101, 1, none⟩ = some (.int .i64 0) := (blk_cell BK101.out 1).trans rfl; have hfz5_0 := blk_frozen BK101.out 0; have hfz5_1 := blk_frozen BK101.out 1)); try go_wp2_with (first | ((with_reducible refine gate_dst (N := 7) rfl ?_); (try (refine gate_guard (by rfl) ?_; dsimp only)); refine box_event ?hg (N := 7) ?hd (cs := #[.int .i64 0, .int .i64 0]) (t := 39) ?hr ?_; (case hd => rfl); (case hg => rfl); (case hr => first | (go_simp; done) | (go_simp; rfl)); intro gb101 hg w4 hbox hb; have n0_ := Aside0.mk (below_step (by repeat (first | (with_reducible first | exact HB.out | apply below_alloc | apply pw_below_drewN | apply below_drew1) | exact HB.out)) hb); have n1_ := Aside0.mk (hbox); have n2_ := Aside0.mk ((by rw [hg]; exact (below_size (by repeat (first | (with_reducible first | exact HB.out | apply below_alloc | apply pw_below_drewN | apply below_drew1) | exact HB.out))) : w.heap.size ≤ gb101)); have n3_ := Aside0.mk ((by rw [hg]; exact (below_size (by repeat (first | (with_reducible first | exact HB.out | apply below_alloc | apply pw_below_drewN | apply below_drew1) | exact HB.out))) : w.heap.size ≤ gb101)); clear HB; have HB := n0_; have BK101 := n1_; have GW101 := n2_; have GE101 := n3_; clear n0_ n1_ n2_ n3_; clear hb hbox hg; have hcz5_0 : w4.cell? ⟨gb101, 0, none⟩ = some (.int .i64 0) := (blk_cell BK101.out 0).trans rfl; have hcz5_1 : w4.cell? ⟨gb101, 1, none⟩ = some (.int .i64 0) := (blk_cell BK101.out 1).trans rfl; have hfz5_0 := blk_frozen BK101.out 0; have hfz5_1 := blk_frozen BK101.out 1)))
  go_loopg [13] k (fun kq v13 w' => ∃ (x13_1 : Int) (x102000_1 : Int) (x102001_1 : Int), v13 = .int .i64 x13_1 ∧ Aside0 (lcs_Right.l0 kq l0 l1 l2 (l2.length : Int) x13_1 x102000_1 x102001_1 = some r) ∧ Aside0 (kq ≤ k) ∧ Aside0 (w'.heap[gb101]? = some (.cells #[.int .i64 x102000_1, .int .i64 x102001_1] 39 (0, 0))) ∧ Aside0 (Below w.heap.size w w'))
  case atStart => exact ⟨(0), ((-1)), ((-1)), (by first | rfl | (simp; done) | (simp [*]; done)), H', ⟨Nat.le_refl _⟩, ⟨by (with_reducible repeat (first | refine blk_drewN ?_ _ | refine blk_drew ?_ | refine blk_alloc ?_ _)); refine blk_put (cs := #[.int .i64 (-1), .int .i64 0]) ?_ 1 _ rfl; (with_reducible repeat (first | refine blk_drewN ?_ _ | refine blk_drew ?_ | refine blk_alloc ?_ _)); refine blk_put (cs := #[.int .i64 0, .int .i64 0]) ?_ 0 _ rfl; (with_reducible repeat (first | refine blk_drewN ?_ _ | refine blk_drew ?_ | refine blk_alloc ?_ _)); exact BK101.out⟩, ⟨by repeat (first | (with_reducible first | exact HB.out | apply below_alloc | apply pw_below_drewN | apply below_drew1 | refine below_set ?_ GE101.out) | exact HB.out)⟩⟩
  case round =>
    clear H'
    try clear c1
    try clear c2
    try clear p2
    try clear c3
    try clear hcz5_0
    try clear hcz5_1
    try clear hfz5_0
    try clear hfz5_1
    obtain ⟨x13_1, x102000_1, x102001_1, rfl, HA, HK1, BK101, HB⟩ := hrel
    cases gk with
    | zero => exact absurd HA.out (by simp [lcs_Right.l0])
    | succ k1 =>
      have H := HA.out
      clear HA
      simp only [lcs_Right.l0] at H
      by_cases c6 : x13_1 < (l2.length : Int)
      · rw [if_pos c6] at H
        have c6b0 : decide (x13_1 < (l2.length : Int)) = true := decide_eq_true c6
        clear c6
        by_cases c7 : 0 ≤ x13_1
        · rw [if_pos c7] at H
          have c7b0 : decide (0 ≤ x13_1) = true := decide_eq_true c7
          clear c7
          by_cases c8 : x13_1 < (l2.length : Int)
          · rw [if_pos c8] at H
            have c8b0 : decide (x13_1 < (l2.length : Int)) = true := decide_eq_true c8
            clear c8
            by_cases c9 : ((rd_T39 l2 x13_1).f0) ≤ x102000_1
            · rw [if_pos c9] at H
              have c9b0 : decide (((rd_T39 l2 x13_1).f0) ≤ x102000_1) = true := decide_eq_true c9
              clear c9
              obtain rfl := Option.some.inj H
              have p102 : 0 ≤ (x13_1 : Int) := of_decide_eq_true (by first | (with_reducible assumption) | assumption)
              have q102 : x13_1 < (l2.length : Int) := of_decide_eq_true (by first | (with_reducible assumption) | assumption)
              obtain ⟨ad102, e102, hx102_0, hx102_1⟩ := at_T39 HR2.out x13_1 p102 q102
              cases e102
              replace hx102_0 := (HB.out.cell (World.block_lt_of_cell? w _ hx102_0)).trans hx102_0
              replace hx102_1 := (HB.out.cell (World.block_lt_of_cell? w _ hx102_1)).trans hx102_1
              replace p102 := eq_true p102
              replace q102 := eq_true q102
              go_wp2_with (first | ((with_reducible refine gate_dst (N := 9) rfl ?_); (try (refine gate_guard (by rfl) ?_; dsimp only)); refine box_event ?hg (N := 9) ?hd (cs := #[.int .i64 0, .int .i64 0]) (t := 39) ?hr ?_; (case hd => rfl); (case hg => rfl); (case hr => first | (go_simp; done) | (go_simp; rfl)); intro gb103 hg w10 hbox hb; have n0_ := Aside0.mk (blk_below (g := gb101) (o := .cells #[.int .i64 x102000_1, .int .i64 x102001_1] 39 (0, 0)) (by (with_reducible repeat (first | refine blk_drewN ?_ _ | refine blk_drew ?_ | refine blk_alloc ?_ _)); exact BK101.out) hb); have n1_ := Aside0.mk (below_step (by repeat (first | (with_reducible first | exact HB.out | apply below_alloc | apply pw_below_drewN | apply below_drew1 | refine below_set ?_ GE101.out) | exact HB.out)) hb); have n2_ := Aside0.mk (hbox); have n3_ := Aside0.mk ((by rw [hg]; exact (below_size (by repeat (first | (with_reducible first | exact HB.out | apply below_alloc | apply pw_below_drewN | apply below_drew1 | refine below_set ?_ GE101.out) | exact HB.out))) : w.heap.size ≤ gb103)); have n4_ := Aside0.mk ((by rw [hg]; exact (below_size (by repeat (first | (with_reducible first | exact HB.out | apply below_alloc | apply pw_below_drewN | apply below_drew1 | refine below_set ?_ GE101.out) | exact HB.out))) : w.heap.size ≤ gb103)); have n5_ := Aside0.mk ((by rw [hg]; exact Nat.ne_of_lt (blk_lt (g := gb101) (o := .cells #[.int .i64 x102000_1, .int .i64 x102001_1] 39 (0, 0)) (by (with_reducible repeat (first | refine blk_drewN ?_ _ | refine blk_drew ?_ | refine blk_alloc ?_ _)); exact BK101.out)) : gb101 ≠ gb103)); have n6_ := Aside0.mk ((by rw [hg]; exact Nat.ne_of_gt (blk_lt (g := gb101) (o := .cells #[.int .i64 x102000_1, .int .i64 x102001_1] 39 (0, 0)) (by (with_reducible repeat (first | refine blk_drewN ?_ _ | refine blk_drew ?_ | refine blk_alloc ?_ _)); exact BK101.out)) : gb103 ≠ gb101)); clear BK101; clear HB; have BK101 := n0_; have HB := n1_; have BK103 := n2_; have GW103 := n3_; have GE103 := n4_; have NB101_103 := n5_; have NB103_101 := n6_; clear n0_ n1_ n2_ n3_ n4_ n5_ n6_; clear hb hbox hg; have hnb11 := NB103_101.out; have hnc11 := NB101_103.out; have hcz12_0 : w10.cell? ⟨gb103, 0, none⟩ = some (.int .i64 0) := (blk_cell BK103.out 0).trans rfl; have hcz12_1 : w10.cell? ⟨gb103, 1, none⟩ = some (.int .i64 0) := (blk_cell BK103.out 1).trans rfl; have hfz12_0 := blk_frozen BK103.out 0; have hfz12_1 := blk_frozen BK103.out 1; have hcz13_0 : w10.cell? ⟨gb101, 0, none⟩ = some (.int .i64 x102000_1) := (blk_cell BK101.out 0).trans rfl; have hcz13_1 : w10.cell? ⟨gb101, 1, none⟩ = some (.int .i64 x102001_1) := (blk_cell BK101.out 1).trans rfl; have hfz13_0 := blk_frozen BK101.out 0; have hfz13_1 := blk_frozen BK101.out 1))
              repeat (go_quiet (first | ((with_reducible refine gate_dst (N := 9) rfl ?_); (try (refine gate_guard (by rfl) ?_; dsimp only)); refine box_event ?hg (N := 9) ?hd (cs := #[.int .i64 0, .int .i64 0]) (t := 39) ?hr ?_; (case hd => rfl); (case hg => rfl); (case hr => first | (go_simp; done) | (go_simp; rfl)); intro gb103 hg w10 hbox hb; have n0_ := Aside0.mk (blk_below (g := gb101) (o := .cells #[.int .i64 x102000_1, .int .i64 x102001_1] 39 (0, 0)) (by (with_reducible repeat (first | refine blk_drewN ?_ _ | refine blk_drew ?_ | refine blk_alloc ?_ _)); exact BK101.out) hb); have n1_ := Aside0.mk (below_step (by repeat (first | (with_reducible first | exact HB.out | apply below_alloc | apply pw_below_drewN | apply below_drew1 | refine below_set ?_ GE101.out) | exact HB.out)) hb); have n2_ := Aside0.mk (hbox); have n3_ := Aside0.mk ((by rw [hg]; exact (below_size (by repeat (first | (with_reducible first | exact HB.out | apply below_alloc | apply pw_below_drewN | apply below_drew1 | refine below_set ?_ GE101.out) | exact HB.out))) : w.heap.size ≤ gb103)); have n4_ := Aside0.mk ((by rw [hg]; exact (below_size (by repeat (first | (with_reducible first | exact HB.out | apply below_alloc | apply pw_below_drewN | apply below_drew1 | refine below_set ?_ GE101.out) | exact HB.out))) : w.heap.size ≤ gb103)); have n5_ := Aside0.mk ((by rw [hg]; exact Nat.ne_of_lt (blk_lt (g := gb101) (o := .cells #[.int .i64 x102000_1, .int .i64 x102001_1] 39 (0, 0)) (by (with_reducible repeat (first | refine blk_drewN ?_ _ | refine blk_drew ?_ | refine blk_alloc ?_ _)); exact BK101.out)) : gb101 ≠ gb103)); have n6_ := Aside0.mk ((by rw [hg]; exact Nat.ne_of_gt (blk_lt (g := gb101) (o := .cells #[.int .i64 x102000_1, .int .i64 x102001_1] 39 (0, 0)) (by (with_reducible repeat (first | refine blk_drewN ?_ _ | refine blk_drew ?_ | refine blk_alloc ?_ _)); exact BK101.out)) : gb103 ≠ gb101)); clear BK101; clear HB; have BK101 := n0_; have HB := n1_; have BK103 := n2_; have GW103 := n3_; have GE103 := n4_; have NB101_103 := n5_; have NB103_101 := n6_; clear n0_ n1_ n2_ n3_ n4_ n5_ n6_; clear hb hbox hg; have hnb11 := NB103_101.out; have hnc11 := NB101_103.out; have hcz12_0 : w10.cell? ⟨gb103, 0, none⟩ = some (.int .i64 0) := (blk_cell BK103.out 0).trans rfl; have hcz12_1 : w10.cell? ⟨gb103, 1, none⟩ = some (.int .i64 0) := (blk_cell BK103.out 1).trans rfl; have hfz12_0 := blk_frozen BK103.out 0; have hfz12_1 := blk_frozen BK103.out 1; have hcz13_0 : w10.cell? ⟨gb101, 0, none⟩ = some (.int .i64 x102000_1) := (blk_cell BK101.out 0).trans rfl; have hcz13_1 : w10.cell? ⟨gb101, 1, none⟩ = some (.int .i64 x102001_1) := (blk_cell BK101.out 1).trans rfl; have hfz13_0 := blk_frozen BK101.out 0; have hfz13_1 := blk_frozen BK101.out 1)); try go_wp2_with (first | ((with_reducible refine gate_dst (N := 9) rfl ?_); (try (refine gate_guard (by rfl) ?_; dsimp only)); refine box_event ?hg (N := 9) ?hd (cs := #[.int .i64 0, .int .i64 0]) (t := 39) ?hr ?_; (case hd => rfl); (case hg => rfl); (case hr => first | (go_simp; done) | (go_simp; rfl)); intro gb103 hg w10 hbox hb; have n0_ := Aside0.mk (blk_below (g := gb101) (o := .cells #[.int .i64 x102000_1, .int .i64 x102001_1] 39 (0, 0)) (by (with_reducible repeat (first | refine blk_drewN ?_ _ | refine blk_drew ?_ | refine blk_alloc ?_ _)); exact BK101.out) hb); have n1_ := Aside0.mk (below_step (by repeat (first | (with_reducible first | exact HB.out | apply below_alloc | apply pw_below_drewN | apply below_drew1 | refine below_set ?_ GE101.out) | exact HB.out)) hb); have n2_ := Aside0.mk (hbox); have n3_ := Aside0.mk ((by rw [hg]; exact (below_size (by repeat (first | (with_reducible first | exact HB.out | apply below_alloc | apply pw_below_drewN | apply below_drew1 | refine below_set ?_ GE101.out) | exact HB.out))) : w.heap.size ≤ gb103)); have n4_ := Aside0.mk ((by rw [hg]; exact (below_size (by repeat (first | (with_reducible first | exact HB.out | apply below_alloc | apply pw_below_drewN | apply below_drew1 | refine below_set ?_ GE101.out) | exact HB.out))) : w.heap.size ≤ gb103)); have n5_ := Aside0.mk ((by rw [hg]; exact Nat.ne_of_lt (blk_lt (g := gb101) (o := .cells #[.int .i64 x102000_1, .int .i64 x102001_1] 39 (0, 0)) (by (with_reducible repeat (first | refine blk_drewN ?_ _ | refine blk_drew ?_ | refine blk_alloc ?_ _)); exact BK101.out)) : gb101 ≠ gb103)); have n6_ := Aside0.mk ((by rw [hg]; exact Nat.ne_of_gt (blk_lt (g := gb101) (o := .cells #[.int .i64 x102000_1, .int .i64 x102001_1] 39 (0, 0)) (by (with_reducible repeat (first | refine blk_drewN ?_ _ | refine blk_drew ?_ | refine blk_alloc ?_ _)); exact BK101.out)) : gb103 ≠ gb101)); clear BK101; clear HB; have BK101 := n0_; have HB := n1_; have BK103 := n2_; have GW103 := n3_; have GE103 := n4_; have NB101_103 := n5_; have NB103_101 := n6_; clear n0_ n1_ n2_ n3_ n4_ n5_ n6_; clear hb hbox hg; have hnb11 := NB103_101.out; have hnc11 := NB101_103.out; have hcz12_0 : w10.cell? ⟨gb103, 0, none⟩ = some (.int .i64 0) := (blk_cell BK103.out 0).trans rfl; have hcz12_1 : w10.cell? ⟨gb103, 1, none⟩ = some (.int .i64 0) := (blk_cell BK103.out 1).trans rfl; have hfz12_0 := blk_frozen BK103.out 0; have hfz12_1 := blk_frozen BK103.out 1; have hcz13_0 : w10.cell? ⟨gb101, 0, none⟩ = some (.int .i64 x102000_1) := (blk_cell BK101.out 0).trans rfl; have hcz13_1 : w10.cell? ⟨gb101, 1, none⟩ = some (.int .i64 x102001_1) := (blk_cell BK101.out 1).trans rfl; have hfz13_0 := blk_frozen BK101.out 0; have hfz13_1 := blk_frozen BK101.out 1)))
              go_ret
              exact ⟨by first | rfl | (simp [errW_none, errW_some] <;> rfl) | (simp [*, errW_none, errW_some] <;> rfl), by repeat (first | (with_reducible first | exact HB.out | apply below_alloc | apply pw_below_drewN | apply below_drew1 | refine below_set ?_ GE101.out | refine below_set ?_ GE103.out) | exact HB.out)⟩
            · rw [if_neg c9] at H
              have c9b0 : decide (((rd_T39 l2 x13_1).f0) ≤ x102000_1) = false := decide_eq_false c9
              clear c9
              by_cases c14 : ((rd_T39 l2 x13_1).f1) ≤ x102001_1
              · rw [if_pos c14] at H
                have c14b0 : decide (((rd_T39 l2 x13_1).f1) ≤ x102001_1) = true := decide_eq_true c14
                clear c14
                obtain rfl := Option.some.inj H
                have p102 : 0 ≤ (x13_1 : Int) := of_decide_eq_true (by first | (with_reducible assumption) | assumption)
                have q102 : x13_1 < (l2.length : Int) := of_decide_eq_true (by first | (with_reducible assumption) | assumption)
                obtain ⟨ad102, e102, hx102_0, hx102_1⟩ := at_T39 HR2.out x13_1 p102 q102
                cases e102
                replace hx102_0 := (HB.out.cell (World.block_lt_of_cell? w _ hx102_0)).trans hx102_0
                replace hx102_1 := (HB.out.cell (World.block_lt_of_cell? w _ hx102_1)).trans hx102_1
                replace p102 := eq_true p102
                replace q102 := eq_true q102
                go_wp2_with (first | ((with_reducible refine gate_dst (N := 9) rfl ?_); (try (refine gate_guard (by rfl) ?_; dsimp only)); refine box_event ?hg (N := 9) ?hd (cs := #[.int .i64 0, .int .i64 0]) (t := 39) ?hr ?_; (case hd => rfl); (case hg => rfl); (case hr => first | (go_simp; done) | (go_simp; rfl)); intro gb103 hg w15 hbox hb; have n0_ := Aside0.mk (blk_below (g := gb101) (o := .cells #[.int .i64 x102000_1, .int .i64 x102001_1] 39 (0, 0)) (by (with_reducible repeat (first | refine blk_drewN ?_ _ | refine blk_drew ?_ | refine blk_alloc ?_ _)); exact BK101.out) hb); have n1_ := Aside0.mk (below_step (by repeat (first | (with_reducible first | exact HB.out | apply below_alloc | apply pw_below_drewN | apply below_drew1 | refine below_set ?_ GE101.out) | exact HB.out)) hb); have n2_ := Aside0.mk (hbox); have n3_ := Aside0.mk ((by rw [hg]; exact (below_size (by repeat (first | (with_reducible first | exact HB.out | apply below_alloc | apply pw_below_drewN | apply below_drew1 | refine below_set ?_ GE101.out) | exact HB.out))) : w.heap.size ≤ gb103)); have n4_ := Aside0.mk ((by rw [hg]; exact (below_size (by repeat (first | (with_reducible first | exact HB.out | apply below_alloc | apply pw_below_drewN | apply below_drew1 | refine below_set ?_ GE101.out) | exact HB.out))) : w.heap.size ≤ gb103)); have n5_ := Aside0.mk ((by rw [hg]; exact Nat.ne_of_lt (blk_lt (g := gb101) (o := .cells #[.int .i64 x102000_1, .int .i64 x102001_1] 39 (0, 0)) (by (with_reducible repeat (first | refine blk_drewN ?_ _ | refine blk_drew ?_ | refine blk_alloc ?_ _)); exact BK101.out)) : gb101 ≠ gb103)); have n6_ := Aside0.mk ((by rw [hg]; exact Nat.ne_of_gt (blk_lt (g := gb101) (o := .cells #[.int .i64 x102000_1, .int .i64 x102001_1] 39 (0, 0)) (by (with_reducible repeat (first | refine blk_drewN ?_ _ | refine blk_drew ?_ | refine blk_alloc ?_ _)); exact BK101.out)) : gb103 ≠ gb101)); clear BK101; clear HB; have BK101 := n0_; have HB := n1_; have BK103 := n2_; have GW103 := n3_; have GE103 := n4_; have NB101_103 := n5_; have NB103_101 := n6_; clear n0_ n1_ n2_ n3_ n4_ n5_ n6_; clear hb hbox hg; have hnb16 := NB103_101.out; have hnc16 := NB101_103.out; have hcz17_0 : w15.cell? ⟨gb103, 0, none⟩ = some (.int .i64 0) := (blk_cell BK103.out 0).trans rfl; have hcz17_1 : w15.cell? ⟨gb103, 1, none⟩ = some (.int .i64 0) := (blk_cell BK103.out 1).trans rfl; have hfz17_0 := blk_frozen BK103.out 0; have hfz17_1 := blk_frozen BK103.out 1; have hcz18_0 : w15.cell? ⟨gb101, 0, none⟩ = some (.int .i64 x102000_1) := (blk_cell BK101.out 0).trans rfl; have hcz18_1 : w15.cell? ⟨gb101, 1, none⟩ = some (.int .i64 x102001_1) := (blk_cell BK101.out 1).trans rfl; have hfz18_0 := blk_frozen BK101.out 0; have hfz18_1 := blk_frozen BK101.out 1))
                repeat (go_quiet (first | ((with_reducible refine gate_dst (N := 9) rfl ?_); (try (refine gate_guard (by rfl) ?_; dsimp only)); refine box_event ?hg (N := 9) ?hd (cs := #[.int .i64 0, .int .i64 0]) (t := 39) ?hr ?_; (case hd => rfl); (case hg => rfl); (case hr => first | (go_simp; done) | (go_simp; rfl)); intro gb103 hg w15 hbox hb; have n0_ := Aside0.mk (blk_below (g := gb101) (o := .cells #[.int .i64 x102000_1, .int .i64 x102001_1] 39 (0, 0)) (by (with_reducible repeat (first | refine blk_drewN ?_ _ | refine blk_drew ?_ | refine blk_alloc ?_ _)); exact BK101.out) hb); have n1_ := Aside0.mk (below_step (by repeat (first | (with_reducible first | exact HB.out | apply below_alloc | apply pw_below_drewN | apply below_drew1 | refine below_set ?_ GE101.out) | exact HB.out)) hb); have n2_ := Aside0.mk (hbox); have n3_ := Aside0.mk ((by rw [hg]; exact (below_size (by repeat (first | (with_reducible first | exact HB.out | apply below_alloc | apply pw_below_drewN | apply below_drew1 | refine below_set ?_ GE101.out) | exact HB.out))) : w.heap.size ≤ gb103)); have n4_ := Aside0.mk ((by rw [hg]; exact (below_size (by repeat (first | (with_reducible first | exact HB.out | apply below_alloc | apply pw_below_drewN | apply below_drew1 | refine below_set ?_ GE101.out) | exact HB.out))) : w.heap.size ≤ gb103)); have n5_ := Aside0.mk ((by rw [hg]; exact Nat.ne_of_lt (blk_lt (g := gb101) (o := .cells #[.int .i64 x102000_1, .int .i64 x102001_1] 39 (0, 0)) (by (with_reducible repeat (first | refine blk_drewN ?_ _ | refine blk_drew ?_ | refine blk_alloc ?_ _)); exact BK101.out)) : gb101 ≠ gb103)); have n6_ := Aside0.mk ((by rw [hg]; exact Nat.ne_of_gt (blk_lt (g := gb101) (o := .cells #[.int .i64 x102000_1, .int .i64 x102001_1] 39 (0, 0)) (by (with_reducible repeat (first | refine blk_drewN ?_ _ | refine blk_drew ?_ | refine blk_alloc ?_ _)); exact BK101.out)) : gb103 ≠ gb101)); clear BK101; clear HB; have BK101 := n0_; have HB := n1_; have BK103 := n2_; have GW103 := n3_; have GE103 := n4_; have NB101_103 := n5_; have NB103_101 := n6_; clear n0_ n1_ n2_ n3_ n4_ n5_ n6_; clear hb hbox hg; have hnb16 := NB103_101.out; have hnc16 := NB101_103.out; have hcz17_0 : w15.cell? ⟨gb103, 0, none⟩ = some (.int .i64 0) := (blk_cell BK103.out 0).trans rfl; have hcz17_1 : w15.cell? ⟨gb103, 1, none⟩ = some (.int .i64 0) := (blk_cell BK103.out 1).trans rfl; have hfz17_0 := blk_frozen BK103.out 0; have hfz17_1 := blk_frozen BK103.out 1; have hcz18_0 : w15.cell? ⟨gb101, 0, none⟩ = some (.int .i64 x102000_1) := (blk_cell BK101.out 0).trans rfl; have hcz18_1 : w15.cell? ⟨gb101, 1, none⟩ = some (.int .i64 x102001_1) := (blk_cell BK101.out 1).trans rfl; have hfz18_0 := blk_frozen BK101.out 0; have hfz18_1 := blk_frozen BK101.out 1)); try go_wp2_with (first | ((with_reducible refine gate_dst (N := 9) rfl ?_); (try (refine gate_guard (by rfl) ?_; dsimp only)); refine box_event ?hg (N := 9) ?hd (cs := #[.int .i64 0, .int .i64 0]) (t := 39) ?hr ?_; (case hd => rfl); (case hg => rfl); (case hr => first | (go_simp; done) | (go_simp; rfl)); intro gb103 hg w15 hbox hb; have n0_ := Aside0.mk (blk_below (g := gb101) (o := .cells #[.int .i64 x102000_1, .int .i64 x102001_1] 39 (0, 0)) (by (with_reducible repeat (first | refine blk_drewN ?_ _ | refine blk_drew ?_ | refine blk_alloc ?_ _)); exact BK101.out) hb); have n1_ := Aside0.mk (below_step (by repeat (first | (with_reducible first | exact HB.out | apply below_alloc | apply pw_below_drewN | apply below_drew1 | refine below_set ?_ GE101.out) | exact HB.out)) hb); have n2_ := Aside0.mk (hbox); have n3_ := Aside0.mk ((by rw [hg]; exact (below_size (by repeat (first | (with_reducible first | exact HB.out | apply below_alloc | apply pw_below_drewN | apply below_drew1 | refine below_set ?_ GE101.out) | exact HB.out))) : w.heap.size ≤ gb103)); have n4_ := Aside0.mk ((by rw [hg]; exact (below_size (by repeat (first | (with_reducible first | exact HB.out | apply below_alloc | apply pw_below_drewN | apply below_drew1 | refine below_set ?_ GE101.out) | exact HB.out))) : w.heap.size ≤ gb103)); have n5_ := Aside0.mk ((by rw [hg]; exact Nat.ne_of_lt (blk_lt (g := gb101) (o := .cells #[.int .i64 x102000_1, .int .i64 x102001_1] 39 (0, 0)) (by (with_reducible repeat (first | refine blk_drewN ?_ _ | refine blk_drew ?_ | refine blk_alloc ?_ _)); exact BK101.out)) : gb101 ≠ gb103)); have n6_ := Aside0.mk ((by rw [hg]; exact Nat.ne_of_gt (blk_lt (g := gb101) (o := .cells #[.int .i64 x102000_1, .int .i64 x102001_1] 39 (0, 0)) (by (with_reducible repeat (first | refine blk_drewN ?_ _ | refine blk_drew ?_ | refine blk_alloc ?_ _)); exact BK101.out)) : gb103 ≠ gb101)); clear BK101; clear HB; have BK101 := n0_; have HB := n1_; have BK103 := n2_; have GW103 := n3_; have GE103 := n4_; have NB101_103 := n5_; have NB103_101 := n6_; clear n0_ n1_ n2_ n3_ n4_ n5_ n6_; clear hb hbox hg; have hnb16 := NB103_101.out; have hnc16 := NB101_103.out; have hcz17_0 : w15.cell? ⟨gb103, 0, none⟩ = some (.int .i64 0) := (blk_cell BK103.out 0).trans rfl; have hcz17_1 : w15.cell? ⟨gb103, 1, none⟩ = some (.int .i64 0) := (blk_cell BK103.out 1).trans rfl; have hfz17_0 := blk_frozen BK103.out 0; have hfz17_1 := blk_frozen BK103.out 1; have hcz18_0 : w15.cell? ⟨gb101, 0, none⟩ = some (.int .i64 x102000_1) := (blk_cell BK101.out 0).trans rfl; have hcz18_1 : w15.cell? ⟨gb101, 1, none⟩ = some (.int .i64 x102001_1) := (blk_cell BK101.out 1).trans rfl; have hfz18_0 := blk_frozen BK101.out 0; have hfz18_1 := blk_frozen BK101.out 1)))
                go_ret
                exact ⟨by first | rfl | (simp [errW_none, errW_some] <;> rfl) | (simp [*, errW_none, errW_some] <;> rfl), by repeat (first | (with_reducible first | exact HB.out | apply below_alloc | apply pw_below_drewN | apply below_drew1 | refine below_set ?_ GE101.out | refine below_set ?_ GE103.out) | exact HB.out)⟩
              · rw [if_neg c14] at H
                have c14b0 : decide (((rd_T39 l2 x13_1).f1) ≤ x102001_1) = false := decide_eq_false c14
                clear c14
                by_cases c19 : ((rd_T39 l2 x13_1).f0) ≥ (l0.length : Int)
                · rw [if_pos c19] at H
                  have c19b0 : decide ((l0.length : Int) ≤ ((rd_T39 l2 x13_1).f0)) = true := decide_eq_true c19
                  clear c19
                  obtain rfl := Option.some.inj H
                  have p102 : 0 ≤ (x13_1 : Int) := of_decide_eq_true (by first | (with_reducible assumption) | assumption)
                  have q102 : x13_1 < (l2.length : Int) := of_decide_eq_true (by first | (with_reducible assumption) | assumption)
                  obtain ⟨ad102, e102, hx102_0, hx102_1⟩ := at_T39 HR2.out x13_1 p102 q102
                  cases e102
                  replace hx102_0 := (HB.out.cell (World.block_lt_of_cell? w _ hx102_0)).trans hx102_0
                  replace hx102_1 := (HB.out.cell (World.block_lt_of_cell? w _ hx102_1)).trans hx102_1
                  replace p102 := eq_true p102
                  replace q102 := eq_true q102
                  go_wp2_with (first | ((with_reducible refine gate_dst (N := 9) rfl ?_); (try (refine gate_guard (by rfl) ?_; dsimp only)); refine box_event ?hg (N := 9) ?hd (cs := #[.int .i64 0, .int .i64 0]) (t := 39) ?hr ?_; (case hd => rfl); (case hg => rfl); (case hr => first | (go_simp; done) | (go_simp; rfl)); intro gb103 hg w20 hbox hb; have n0_ := Aside0.mk (blk_below (g := gb101) (o := .cells #[.int .i64 x102000_1, .int .i64 x102001_1] 39 (0, 0)) (by (with_reducible repeat (first | refine blk_drewN ?_ _ | refine blk_drew ?_ | refine blk_alloc ?_ _)); exact BK101.out) hb); have n1_ := Aside0.mk (below_step (by repeat (first | (with_reducible first | exact HB.out | apply below_alloc | apply pw_below_drewN | apply below_drew1 | refine below_set ?_ GE101.out) | exact HB.out)) hb); have n2_ := Aside0.mk (hbox); have n3_ := Aside0.mk ((by rw [hg]; exact (below_size (by repeat (first | (with_reducible first | exact HB.out | apply below_alloc | apply pw_below_drewN | apply below_drew1 | refine below_set ?_ GE101.out) | exact HB.out))) : w.heap.size ≤ gb103)); have n4_ := Aside0.mk ((by rw [hg]; exact (below_size (by repeat (first | (with_reducible first | exact HB.out | apply below_alloc | apply pw_below_drewN | apply below_drew1 | refine below_set ?_ GE101.out) | exact HB.out))) : w.heap.size ≤ gb103)); have n5_ := Aside0.mk ((by rw [hg]; exact Nat.ne_of_lt (blk_lt (g := gb101) (o := .cells #[.int .i64 x102000_1, .int .i64 x102001_1] 39 (0, 0)) (by (with_reducible repeat (first | refine blk_drewN ?_ _ | refine blk_drew ?_ | refine blk_alloc ?_ _)); exact BK101.out)) : gb101 ≠ gb103)); have n6_ := Aside0.mk ((by rw [hg]; exact Nat.ne_of_gt (blk_lt (g := gb101) (o := .cells #[.int .i64 x102000_1, .int .i64 x102001_1] 39 (0, 0)) (by (with_reducible repeat (first | refine blk_drewN ?_ _ | refine blk_drew ?_ | refine blk_alloc ?_ _)); exact BK101.out)) : gb103 ≠ gb101)); clear BK101; clear HB; have BK101 := n0_; have HB := n1_; have BK103 := n2_; have GW103 := n3_; have GE103 := n4_; have NB101_103 := n5_; have NB103_101 := n6_; clear n0_ n1_ n2_ n3_ n4_ n5_ n6_; clear hb hbox hg; have hnb21 := NB103_101.out; have hnc21 := NB101_103.out; have hcz22_0 : w20.cell? ⟨gb103, 0, none⟩ = some (.int .i64 0) := (blk_cell BK103.out 0).trans rfl; have hcz22_1 : w20.cell? ⟨gb103, 1, none⟩ = some (.int .i64 0) := (blk_cell BK103.out 1).trans rfl; have hfz22_0 := blk_frozen BK103.out 0; have hfz22_1 := blk_frozen BK103.out 1; have hcz23_0 : w20.cell? ⟨gb101, 0, none⟩ = some (.int .i64 x102000_1) := (blk_cell BK101.out 0).trans rfl; have hcz23_1 : w20.cell? ⟨gb101, 1, none⟩ = some (.int .i64 x102001_1) := (blk_cell BK101.out 1).trans rfl; have hfz23_0 := blk_frozen BK101.out 0; have hfz23_1 := blk_frozen BK101.out 1))
                  repeat (go_quiet (first | ((with_reducible refine gate_dst (N := 9) rfl ?_); (try (refine gate_guard (by rfl) ?_; dsimp only)); refine box_event ?hg (N := 9) ?hd (cs := #[.int .i64 0, .int .i64 0]) (t := 39) ?hr ?_; (case hd => rfl); (case hg => rfl); (case hr => first | (go_simp; done) | (go_simp; rfl)); intro gb103 hg w20 hbox hb; have n0_ := Aside0.mk (blk_below (g := gb101) (o := .cells #[.int .i64 x102000_1, .int .i64 x102001_1] 39 (0, 0)) (by (with_reducible repeat (first | refine blk_drewN ?_ _ | refine blk_drew ?_ | refine blk_alloc ?_ _)); exact BK101.out) hb); have n1_ := Aside0.mk (below_step (by repeat (first | (with_reducible first | exact HB.out | apply below_alloc | apply pw_below_drewN | apply below_drew1 | refine below_set ?_ GE101.out) | exact HB.out)) hb); have n2_ := Aside0.mk (hbox); have n3_ := Aside0.mk ((by rw [hg]; exact (below_size (by repeat (first | (with_reducible first | exact HB.out | apply below_alloc | apply pw_below_drewN | apply below_drew1 | refine below_set ?_ GE101.out) | exact HB.out))) : w.heap.size ≤ gb103)); have n4_ := Aside0.mk ((by rw [hg]; exact (below_size (by repeat (first | (with_reducible first | exact HB.out | apply below_alloc | apply pw_below_drewN | apply below_drew1 | refine below_set ?_ GE101.out) | exact HB.out))) : w.heap.size ≤ gb103)); have n5_ := Aside0.mk ((by rw [hg]; exact Nat.ne_of_lt (blk_lt (g := gb101) (o := .cells #[.int .i64 x102000_1, .int .i64 x102001_1] 39 (0, 0)) (by (with_reducible repeat (first | refine blk_drewN ?_ _ | refine blk_drew ?_ | refine blk_alloc ?_ _)); exact BK101.out)) : gb101 ≠ gb103)); have n6_ := Aside0.mk ((by rw [hg]; exact Nat.ne_of_gt (blk_lt (g := gb101) (o := .cells #[.int .i64 x102000_1, .int .i64 x102001_1] 39 (0, 0)) (by (with_reducible repeat (first | refine blk_drewN ?_ _ | refine blk_drew ?_ | refine blk_alloc ?_ _)); exact BK101.out)) : gb103 ≠ gb101)); clear BK101; clear HB; have BK101 := n0_; have HB := n1_; have BK103 := n2_; have GW103 := n3_; have GE103 := n4_; have NB101_103 := n5_; have NB103_101 := n6_; clear n0_ n1_ n2_ n3_ n4_ n5_ n6_; clear hb hbox hg; have hnb21 := NB103_101.out; have hnc21 := NB101_103.out; have hcz22_0 : w20.cell? ⟨gb103, 0, none⟩ = some (.int .i64 0) := (blk_cell BK103.out 0).trans rfl; have hcz22_1 : w20.cell? ⟨gb103, 1, none⟩ = some (.int .i64 0) := (blk_cell BK103.out 1).trans rfl; have hfz22_0 := blk_frozen BK103.out 0; have hfz22_1 := blk_frozen BK103.out 1; have hcz23_0 : w20.cell? ⟨gb101, 0, none⟩ = some (.int .i64 x102000_1) := (blk_cell BK101.out 0).trans rfl; have hcz23_1 : w20.cell? ⟨gb101, 1, none⟩ = some (.int .i64 x102001_1) := (blk_cell BK101.out 1).trans rfl; have hfz23_0 := blk_frozen BK101.out 0; have hfz23_1 := blk_frozen BK101.out 1)); try go_wp2_with (first | ((with_reducible refine gate_dst (N := 9) rfl ?_); (try (refine gate_guard (by rfl) ?_; dsimp only)); refine box_event ?hg (N := 9) ?hd (cs := #[.int .i64 0, .int .i64 0]) (t := 39) ?hr ?_; (case hd => rfl); (case hg => rfl); (case hr => first | (go_simp; done) | (go_simp; rfl)); intro gb103 hg w20 hbox hb; have n0_ := Aside0.mk (blk_below (g := gb101) (o := .cells #[.int .i64 x102000_1, .int .i64 x102001_1] 39 (0, 0)) (by (with_reducible repeat (first | refine blk_drewN ?_ _ | refine blk_drew ?_ | refine blk_alloc ?_ _)); exact BK101.out) hb); have n1_ := Aside0.mk (below_step (by repeat (first | (with_reducible first | exact HB.out | apply below_alloc | apply pw_below_drewN | apply below_drew1 | refine below_set ?_ GE101.out) | exact HB.out)) hb); have n2_ := Aside0.mk (hbox); have n3_ := Aside0.mk ((by rw [hg]; exact (below_size (by repeat (first | (with_reducible first | exact HB.out | apply below_alloc | apply pw_below_drewN | apply below_drew1 | refine below_set ?_ GE101.out) | exact HB.out))) : w.heap.size ≤ gb103)); have n4_ := Aside0.mk ((by rw [hg]; exact (below_size (by repeat (first | (with_reducible first | exact HB.out | apply below_alloc | apply pw_below_drewN | apply below_drew1 | refine below_set ?_ GE101.out) | exact HB.out))) : w.heap.size ≤ gb103)); have n5_ := Aside0.mk ((by rw [hg]; exact Nat.ne_of_lt (blk_lt (g := gb101) (o := .cells #[.int .i64 x102000_1, .int .i64 x102001_1] 39 (0, 0)) (by (with_reducible repeat (first | refine blk_drewN ?_ _ | refine blk_drew ?_ | refine blk_alloc ?_ _)); exact BK101.out)) : gb101 ≠ gb103)); have n6_ := Aside0.mk ((by rw [hg]; exact Nat.ne_of_gt (blk_lt (g := gb101) (o := .cells #[.int .i64 x102000_1, .int .i64 x102001_1] 39 (0, 0)) (by (with_reducible repeat (first | refine blk_drewN ?_ _ | refine blk_drew ?_ | refine blk_alloc ?_ _)); exact BK101.out)) : gb103 ≠ gb101)); clear BK101; clear HB; have BK101 := n0_; have HB := n1_; have BK103 := n2_; have GW103 := n3_; have GE103 := n4_; have NB101_103 := n5_; have NB103_101 := n6_; clear n0_ n1_ n2_ n3_ n4_ n5_ n6_; clear hb hbox hg; have hnb21 := NB103_101.out; have hnc21 := NB101_103.out; have hcz22_0 : w20.cell? ⟨gb103, 0, none⟩ = some (.int .i64 0) := (blk_cell BK103.out 0).trans rfl; have hcz22_1 : w20.cell? ⟨gb103, 1, none⟩ = some (.int .i64 0) := (blk_cell BK103.out 1).trans rfl; have hfz22_0 := blk_frozen BK103.out 0; have hfz22_1 := blk_frozen BK103.out 1; have hcz23_0 : w20.cell? ⟨gb101, 0, none⟩ = some (.int .i64 x102000_1) := (blk_cell BK101.out 0).trans rfl; have hcz23_1 : w20.cell? ⟨gb101, 1, none⟩ = some (.int .i64 x102001_1) := (blk_cell BK101.out 1).trans rfl; have hfz23_0 := blk_frozen BK101.out 0; have hfz23_1 := blk_frozen BK101.out 1)))
                  go_ret
                  exact ⟨by first | rfl | (simp [errW_none, errW_some] <;> rfl) | (simp [*, errW_none, errW_some] <;> rfl), by repeat (first | (with_reducible first | exact HB.out | apply below_alloc | apply pw_below_drewN | apply below_drew1 | refine below_set ?_ GE101.out | refine below_set ?_ GE103.out) | exact HB.out)⟩
                · rw [if_neg c19] at H
                  have c19b0 : decide ((l0.length : Int) ≤ ((rd_T39 l2 x13_1).f0)) = false := decide_eq_false c19
                  clear c19
                  by_cases c24 : ((rd_T39 l2 x13_1).f1) ≥ (l1.length : Int)
                  · rw [if_pos c24] at H
                    have c24b0 : decide ((l1.length : Int) ≤ ((rd_T39 l2 x13_1).f1)) = true := decide_eq_true c24
                    clear c24
                    obtain rfl := Option.some.inj H
                    have p102 : 0 ≤ (x13_1 : Int) := of_decide_eq_true (by first | (with_reducible assumption) | assumption)
                    have q102 : x13_1 < (l2.length : Int) := of_decide_eq_true (by first | (with_reducible assumption) | assumption)
                    obtain ⟨ad102, e102, hx102_0, hx102_1⟩ := at_T39 HR2.out x13_1 p102 q102
                    cases e102
                    replace hx102_0 := (HB.out.cell (World.block_lt_of_cell? w _ hx102_0)).trans hx102_0
                    replace hx102_1 := (HB.out.cell (World.block_lt_of_cell? w _ hx102_1)).trans hx102_1
                    replace p102 := eq_true p102
                    replace q102 := eq_true q102
                    go_wp2_with (first | ((with_reducible refine gate_dst (N := 9) rfl ?_); (try (refine gate_guard (by rfl) ?_; dsimp only)); refine box_event ?hg (N := 9) ?hd (cs := #[.int .i64 0, .int .i64 0]) (t := 39) ?hr ?_; (case hd => rfl); (case hg => rfl); (case hr => first | (go_simp; done) | (go_simp; rfl)); intro gb103 hg w25 hbox hb; have n0_ := Aside0.mk (blk_below (g := gb101) (o := .cells #[.int .i64 x102000_1, .int .i64 x102001_1] 39 (0, 0)) (by (with_reducible repeat (first | refine blk_drewN ?_ _ | refine blk_drew ?_ | refine blk_alloc ?_ _)); exact BK101.out) hb); have n1_ := Aside0.mk (below_step (by repeat (first | (with_reducible first | exact HB.out | apply below_alloc | apply pw_below_drewN | apply below_drew1 | refine below_set ?_ GE101.out) | exact HB.out)) hb); have n2_ := Aside0.mk (hbox); have n3_ := Aside0.mk ((by rw [hg]; exact (below_size (by repeat (first | (with_reducible first | exact HB.out | apply below_alloc | apply pw_below_drewN | apply below_drew1 | refine below_set ?_ GE101.out) | exact HB.out))) : w.heap.size ≤ gb103)); have n4_ := Aside0.mk ((by rw [hg]; exact (below_size (by repeat (first | (with_reducible first | exact HB.out | apply below_alloc | apply pw_below_drewN | apply below_drew1 | refine below_set ?_ GE101.out) | exact HB.out))) : w.heap.size ≤ gb103)); have n5_ := Aside0.mk ((by rw [hg]; exact Nat.ne_of_lt (blk_lt (g := gb101) (o := .cells #[.int .i64 x102000_1, .int .i64 x102001_1] 39 (0, 0)) (by (with_reducible repeat (first | refine blk_drewN ?_ _ | refine blk_drew ?_ | refine blk_alloc ?_ _)); exact BK101.out)) : gb101 ≠ gb103)); have n6_ := Aside0.mk ((by rw [hg]; exact Nat.ne_of_gt (blk_lt (g := gb101) (o := .cells #[.int .i64 x102000_1, .int .i64 x102001_1] 39 (0, 0)) (by (with_reducible repeat (first | refine blk_drewN ?_ _ | refine blk_drew ?_ | refine blk_alloc ?_ _)); exact BK101.out)) : gb103 ≠ gb101)); clear BK101; clear HB; have BK101 := n0_; have HB := n1_; have BK103 := n2_; have GW103 := n3_; have GE103 := n4_; have NB101_103 := n5_; have NB103_101 := n6_; clear n0_ n1_ n2_ n3_ n4_ n5_ n6_; clear hb hbox hg; have hnb26 := NB103_101.out; have hnc26 := NB101_103.out; have hcz27_0 : w25.cell? ⟨gb103, 0, none⟩ = some (.int .i64 0) := (blk_cell BK103.out 0).trans rfl; have hcz27_1 : w25.cell? ⟨gb103, 1, none⟩ = some (.int .i64 0) := (blk_cell BK103.out 1).trans rfl; have hfz27_0 := blk_frozen BK103.out 0; have hfz27_1 := blk_frozen BK103.out 1; have hcz28_0 : w25.cell? ⟨gb101, 0, none⟩ = some (.int .i64 x102000_1) := (blk_cell BK101.out 0).trans rfl; have hcz28_1 : w25.cell? ⟨gb101, 1, none⟩ = some (.int .i64 x102001_1) := (blk_cell BK101.out 1).trans rfl; have hfz28_0 := blk_frozen BK101.out 0; have hfz28_1 := blk_frozen BK101.out 1))
                    repeat (go_quiet (first | ((with_reducible refine gate_dst (N := 9) rfl ?_); (try (refine gate_guard (by rfl) ?_; dsimp only)); refine box_event ?hg (N := 9) ?hd (cs := #[.int .i64 0, .int .i64 0]) (t := 39) ?hr ?_; (case hd => rfl); (case hg => rfl); (case hr => first | (go_simp; done) | (go_simp; rfl)); intro gb103 hg w25 hbox hb; have n0_ := Aside0.mk (blk_below (g := gb101) (o := .cells #[.int .i64 x102000_1, .int .i64 x102001_1] 39 (0, 0)) (by (with_reducible repeat (first | refine blk_drewN ?_ _ | refine blk_drew ?_ | refine blk_alloc ?_ _)); exact BK101.out) hb); have n1_ := Aside0.mk (below_step (by repeat (first | (with_reducible first | exact HB.out | apply below_alloc | apply pw_below_drewN | apply below_drew1 | refine below_set ?_ GE101.out) | exact HB.out)) hb); have n2_ := Aside0.mk (hbox); have n3_ := Aside0.mk ((by rw [hg]; exact (below_size (by repeat (first | (with_reducible first | exact HB.out | apply below_alloc | apply pw_below_drewN | apply below_drew1 | refine below_set ?_ GE101.out) | exact HB.out))) : w.heap.size ≤ gb103)); have n4_ := Aside0.mk ((by rw [hg]; exact (below_size (by repeat (first | (with_reducible first | exact HB.out | apply below_alloc | apply pw_below_drewN | apply below_drew1 | refine below_set ?_ GE101.out) | exact HB.out))) : w.heap.size ≤ gb103)); have n5_ := Aside0.mk ((by rw [hg]; exact Nat.ne_of_lt (blk_lt (g := gb101) (o := .cells #[.int .i64 x102000_1, .int .i64 x102001_1] 39 (0, 0)) (by (with_reducible repeat (first | refine blk_drewN ?_ _ | refine blk_drew ?_ | refine blk_alloc ?_ _)); exact BK101.out)) : gb101 ≠ gb103)); have n6_ := Aside0.mk ((by rw [hg]; exact Nat.ne_of_gt (blk_lt (g := gb101) (o := .cells #[.int .i64 x102000_1, .int .i64 x102001_1] 39 (0, 0)) (by (with_reducible repeat (first | refine blk_drewN ?_ _ | refine blk_drew ?_ | refine blk_alloc ?_ _)); exact BK101.out)) : gb103 ≠ gb101)); clear BK101; clear HB; have BK101 := n0_; have HB := n1_; have BK103 := n2_; have GW103 := n3_; have GE103 := n4_; have NB101_103 := n5_; have NB103_101 := n6_; clear n0_ n1_ n2_ n3_ n4_ n5_ n6_; clear hb hbox hg; have hnb26 := NB103_101.out; have hnc26 := NB101_103.out; have hcz27_0 : w25.cell? ⟨gb103, 0, none⟩ = some (.int .i64 0) := (blk_cell BK103.out 0).trans rfl; have hcz27_1 : w25.cell? ⟨gb103, 1, none⟩ = some (.int .i64 0) := (blk_cell BK103.out 1).trans rfl; have hfz27_0 := blk_frozen BK103.out 0; have hfz27_1 := blk_frozen BK103.out 1; have hcz28_0 : w25.cell? ⟨gb101, 0, none⟩ = some (.int .i64 x102000_1) := (blk_cell BK101.out 0).trans rfl; have hcz28_1 : w25.cell? ⟨gb101, 1, none⟩ = some (.int .i64 x102001_1) := (blk_cell BK101.out 1).trans rfl; have hfz28_0 := blk_frozen BK101.out 0; have hfz28_1 := blk_frozen BK101.out 1)); try go_wp2_with (first | ((with_reducible refine gate_dst (N := 9) rfl ?_); (try (refine gate_guard (by rfl) ?_; dsimp only)); refine box_event ?hg (N := 9) ?hd (cs := #[.int .i64 0, .int .i64 0]) (t := 39) ?hr ?_; (case hd => rfl); (case hg => rfl); (case hr => first | (go_simp; done) | (go_simp; rfl)); intro gb103 hg w25 hbox hb; have n0_ := Aside0.mk (blk_below (g := gb101) (o := .cells #[.int .i64 x102000_1, .int .i64 x102001_1] 39 (0, 0)) (by (with_reducible repeat (first | refine blk_drewN ?_ _ | refine blk_drew ?_ | refine blk_alloc ?_ _)); exact BK101.out) hb); have n1_ := Aside0.mk (below_step (by repeat (first | (with_reducible first | exact HB.out | apply below_alloc | apply pw_below_drewN | apply below_drew1 | refine below_set ?_ GE101.out) | exact HB.out)) hb); have n2_ := Aside0.mk (hbox); have n3_ := Aside0.mk ((by rw [hg]; exact (below_size (by repeat (first | (with_reducible first | exact HB.out | apply below_alloc | apply pw_below_drewN | apply below_drew1 | refine below_set ?_ GE101.out) | exact HB.out))) : w.heap.size ≤ gb103)); have n4_ := Aside0.mk ((by rw [hg]; exact (below_size (by repeat (first | (with_reducible first | exact HB.out | apply below_alloc | apply pw_below_drewN | apply below_drew1 | refine below_set ?_ GE101.out) | exact HB.out))) : w.heap.size ≤ gb103)); have n5_ := Aside0.mk ((by rw [hg]; exact Nat.ne_of_lt (blk_lt (g := gb101) (o := .cells #[.int .i64 x102000_1, .int .i64 x102001_1] 39 (0, 0)) (by (with_reducible repeat (first | refine blk_drewN ?_ _ | refine blk_drew ?_ | refine blk_alloc ?_ _)); exact BK101.out)) : gb101 ≠ gb103)); have n6_ := Aside0.mk ((by rw [hg]; exact Nat.ne_of_gt (blk_lt (g := gb101) (o := .cells #[.int .i64 x102000_1, .int .i64 x102001_1] 39 (0, 0)) (by (with_reducible repeat (first | refine blk_drewN ?_ _ | refine blk_drew ?_ | refine blk_alloc ?_ _)); exact BK101.out)) : gb103 ≠ gb101)); clear BK101; clear HB; have BK101 := n0_; have HB := n1_; have BK103 := n2_; have GW103 := n3_; have GE103 := n4_; have NB101_103 := n5_; have NB103_101 := n6_; clear n0_ n1_ n2_ n3_ n4_ n5_ n6_; clear hb hbox hg; have hnb26 := NB103_101.out; have hnc26 := NB101_103.out; have hcz27_0 : w25.cell? ⟨gb103, 0, none⟩ = some (.int .i64 0) := (blk_cell BK103.out 0).trans rfl; have hcz27_1 : w25.cell? ⟨gb103, 1, none⟩ = some (.int .i64 0) := (blk_cell BK103.out 1).trans rfl; have hfz27_0 := blk_frozen BK103.out 0; have hfz27_1 := blk_frozen BK103.out 1; have hcz28_0 : w25.cell? ⟨gb101, 0, none⟩ = some (.int .i64 x102000_1) := (blk_cell BK101.out 0).trans rfl; have hcz28_1 : w25.cell? ⟨gb101, 1, none⟩ = some (.int .i64 x102001_1) := (blk_cell BK101.out 1).trans rfl; have hfz28_0 := blk_frozen BK101.out 0; have hfz28_1 := blk_frozen BK101.out 1)))
                    go_ret
                    exact ⟨by first | rfl | (simp [errW_none, errW_some] <;> rfl) | (simp [*, errW_none, errW_some] <;> rfl), by repeat (first | (with_reducible first | exact HB.out | apply below_alloc | apply pw_below_drewN | apply below_drew1 | refine below_set ?_ GE101.out | refine below_set ?_ GE103.out) | exact HB.out)⟩
                  · rw [if_neg c24] at H
                    have c24b0 : decide ((l1.length : Int) ≤ ((rd_T39 l2 x13_1).f1)) = false := decide_eq_false c24
                    clear c24
                    by_cases c29 : 0 ≤ ((rd_T39 l2 x13_1).f0)
                    · rw [if_pos c29] at H
                      have c29b0 : decide (0 ≤ ((rd_T39 l2 x13_1).f0)) = true := decide_eq_true c29
                      clear c29
                      by_cases c30 : ((rd_T39 l2 x13_1).f0) < (l0.length : Int)
                      · rw [if_pos c30] at H
                        have c30b0 : decide (((rd_T39 l2 x13_1).f0) < (l0.length : Int)) = true := decide_eq_true c30
                        clear c30
                        by_cases c31 : 0 ≤ ((rd_T39 l2 x13_1).f1)
                        · rw [if_pos c31] at H
                          have c31b0 : decide (0 ≤ ((rd_T39 l2 x13_1).f1)) = true := decide_eq_true c31
                          clear c31
                          by_cases c32 : ((rd_T39 l2 x13_1).f1) < (l1.length : Int)
                          · rw [if_pos c32] at H
                            have c32b0 : decide (((rd_T39 l2 x13_1).f1) < (l1.length : Int)) = true := decide_eq_true c32
                            clear c32
                            by_cases c33 : (rd l0 ((rd_T39 l2 x13_1).f0)) = (rd l1 ((rd_T39 l2 x13_1).f1))
                            · rw [if_pos c33] at H
                              have c33b0 : ((rd l0 ((rd_T39 l2 x13_1).f0)) == (rd l1 ((rd_T39 l2 x13_1).f1))) = true := beq_iff_eq.mpr c33
                              have c33b1 : ((rd l0 ((rd_T39 l2 x13_1).f0)) != (rd l1 ((rd_T39 l2 x13_1).f1))) = false := bne_eq_false_iff_eq.mpr c33
                              clear c33
                              have H' := Aside0.mk H
                              clear H
                              have p102 : 0 ≤ (x13_1 : Int) := of_decide_eq_true (by first | (with_reducible assumption) | assumption)
                              have q102 : x13_1 < (l2.length : Int) := of_decide_eq_true (by first | (with_reducible assumption) | assumption)
                              obtain ⟨ad102, e102, hx102_0, hx102_1⟩ := at_T39 HR2.out x13_1 p102 q102
                              cases e102
                              replace hx102_0 := (HB.out.cell (World.block_lt_of_cell? w _ hx102_0)).trans hx102_0
                              replace hx102_1 := (HB.out.cell (World.block_lt_of_cell? w _ hx102_1)).trans hx102_1
                              replace p102 := eq_true p102
                              replace q102 := eq_true q102
                              go_wp2_with (first | ((with_reducible refine gate_dst (N := 9) rfl ?_); (try (refine gate_guard (by rfl) ?_; dsimp only)); refine box_event ?hg (N := 9) ?hd (cs := #[.int .i64 0, .int .i64 0]) (t := 39) ?hr ?_; (case hd => rfl); (case hg => rfl); (case hr => first | (go_simp; done) | (go_simp; rfl)); intro gb103 hg w34 hbox hb; have n0_ := Aside0.mk (blk_below (g := gb101) (o := .cells #[.int .i64 x102000_1, .int .i64 x102001_1] 39 (0, 0)) (by (with_reducible repeat (first | refine blk_drewN ?_ _ | refine blk_drew ?_ | refine blk_alloc ?_ _)); exact BK101.out) hb); have n1_ := Aside0.mk (below_step (by repeat (first | (with_reducible first | exact HB.out | apply below_alloc | apply pw_below_drewN | apply below_drew1 | refine below_set ?_ GE101.out) | exact HB.out)) hb); have n2_ := Aside0.mk (hbox); have n3_ := Aside0.mk ((by rw [hg]; exact (below_size (by repeat (first | (with_reducible first | exact HB.out | apply below_alloc | apply pw_below_drewN | apply below_drew1 | refine below_set ?_ GE101.out) | exact HB.out))) : w.heap.size ≤ gb103)); have n4_ := Aside0.mk ((by rw [hg]; exact (below_size (by repeat (first | (with_reducible first | exact HB.out | apply below_alloc | apply pw_below_drewN | apply below_drew1 | refine below_set ?_ GE101.out) | exact HB.out))) : w.heap.size ≤ gb103)); have n5_ := Aside0.mk ((by rw [hg]; exact Nat.ne_of_lt (blk_lt (g := gb101) (o := .cells #[.int .i64 x102000_1, .int .i64 x102001_1] 39 (0, 0)) (by (with_reducible repeat (first | refine blk_drewN ?_ _ | refine blk_drew ?_ | refine blk_alloc ?_ _)); exact BK101.out)) : gb101 ≠ gb103)); have n6_ := Aside0.mk ((by rw [hg]; exact Nat.ne_of_gt (blk_lt (g := gb101) (o := .cells #[.int .i64 x102000_1, .int .i64 x102001_1] 39 (0, 0)) (by (with_reducible repeat (first | refine blk_drewN ?_ _ | refine blk_drew ?_ | refine blk_alloc ?_ _)); exact BK101.out)) : gb103 ≠ gb101)); clear BK101; clear HB; have BK101 := n0_; have HB := n1_; have BK103 := n2_; have GW103 := n3_; have GE103 := n4_; have NB101_103 := n5_; have NB103_101 := n6_; clear n0_ n1_ n2_ n3_ n4_ n5_ n6_; clear hb hbox hg; have hnb35 := NB103_101.out; have hnc35 := NB101_103.out; have hcz36_0 : w34.cell? ⟨gb103, 0, none⟩ = some (.int .i64 0) := (blk_cell BK103.out 0).trans rfl; have hcz36_1 : w34.cell? ⟨gb103, 1, none⟩ = some (.int .i64 0) := (blk_cell BK103.out 1).trans rfl; have hfz36_0 := blk_frozen BK103.out 0; have hfz36_1 := blk_frozen BK103.out 1; have hcz37_0 : w34.cell? ⟨gb101, 0, none⟩ = some (.int .i64 x102000_1) := (blk_cell BK101.out 0).trans rfl; have hcz37_1 : w34.cell? ⟨gb101, 1, none⟩ = some (.int .i64 x102001_1) := (blk_cell BK101.out 1).trans rfl; have hfz37_0 := blk_frozen BK101.out 0; have hfz37_1 := blk_frozen BK101.out 1; have p104 : 0 ≤ (((rd_T39 l2 x13_1).f0) : Int) := of_decide_eq_true (by first | (with_reducible assumption) | assumption); have q104 : ((rd_T39 l2 x13_1).f0) < (l0.length : Int) := of_decide_eq_true (by first | (with_reducible assumption) | assumption); obtain ⟨ad104, e104, hx104_0⟩ := Kd.at_int HR0.out ((rd_T39 l2 x13_1).f0) p104 q104; cases e104; have hn104_0 : ad104.block ≠ gb103 := Nat.ne_of_lt (Nat.lt_of_lt_of_le (by have := World.block_lt_of_cell? _ _ hx104_0; first | rwa [add_block] at this | exact this) GW103.out); have hn104_1 : ad104.block ≠ gb103 := Nat.ne_of_lt (Nat.lt_of_lt_of_le (by have := World.block_lt_of_cell? _ _ hx104_0; first | rwa [add_block] at this | exact this) GW103.out); replace hx104_0 := (HB.out.cell (World.block_lt_of_cell? w _ hx104_0)).trans hx104_0; replace hx104_0 := (cell_far (p := ⟨gb103, 0, none⟩) (by first | (rw [add_block]; exact hn104_0) | (show (Addr.add _ _).block ≠ _; rw [add_block]; exact hn104_0) | exact hn104_0) (.int .i64 ((rd_T39 l2 x13_1).f0))).trans hx104_0; replace hx104_0 := (cell_far (p := ⟨gb103, 1, none⟩) (by first | (rw [add_block]; exact hn104_1) | (show (Addr.add _ _).block ≠ _; rw [add_block]; exact hn104_1) | exact hn104_1) (.int .i64 ((rd_T39 l2 x13_1).f1))).trans hx104_0; (try have hy104_0 := fun (n_ : Nat) => (show ((((w34.drewN n_).setCell ⟨gb103, 0, none⟩ (.int .i64 ((rd_T39 l2 x13_1).f0))).setCell ⟨gb103, 1, none⟩ (.int .i64 ((rd_T39 l2 x13_1).f1)))).cell? _ = some _ from hx104_0)); clear hn104_0; clear hn104_1; replace p104 := eq_true p104; replace q104 := eq_true q104; have p105 : 0 ≤ (((rd_T39 l2 x13_1).f1) : Int) := of_decide_eq_true (by first | (with_reducible assumption) | assumption); have q105 : ((rd_T39 l2 x13_1).f1) < (l1.length : Int) := of_decide_eq_true (by first | (with_reducible assumption) | assumption); obtain ⟨ad105, e105, hx105_0⟩ := Kd.at_int HR1.out ((rd_T39 l2 x13_1).f1) p105 q105; cases e105; have hn105_0 : ad105.block ≠ gb103 := Nat.ne_of_lt (Nat.lt_of_lt_of_le (by have := World.block_lt_of_cell? _ _ hx105_0; first | rwa [add_block] at this | exact this) GW103.out); have hn105_1 : ad105.block ≠ gb103 := Nat.ne_of_lt (Nat.lt_of_lt_of_le (by have := World.block_lt_of_cell? _ _ hx105_0; first | rwa [add_block] at this | exact this) GW103.out); replace hx105_0 := (HB.out.cell (World.block_lt_of_cell? w _ hx105_0)).trans hx105_0; replace hx105_0 := (cell_far (p := ⟨gb103, 0, none⟩) (by first | (rw [add_block]; exact hn105_0) | (show (Addr.add _ _).block ≠ _; rw [add_block]; exact hn105_0) | exact hn105_0) (.int .i64 ((rd_T39 l2 x13_1).f0))).trans hx105_0; replace hx105_0 := (cell_far (p := ⟨gb103, 1, none⟩) (by first | (rw [add_block]; exact hn105_1) | (show (Addr.add _ _).block ≠ _; rw [add_block]; exact hn105_1) | exact hn105_1) (.int .i64 ((rd_T39 l2 x13_1).f1))).trans hx105_0; (try have hy105_0 := fun (n_ : Nat) => (show ((((w34.drewN n_).setCell ⟨gb103, 0, none⟩ (.int .i64 ((rd_T39 l2 x13_1).f0))).setCell ⟨gb103, 1, none⟩ (.int .i64 ((rd_T39 l2 x13_1).f1)))).cell? _ = some _ from hx105_0)); clear hn105_0; clear hn105_1; replace p105 := eq_true p105; replace q105 := eq_true q105))
                              repeat (go_quiet (first | ((with_reducible refine gate_dst (N := 9) rfl ?_); (try (refine gate_guard (by rfl) ?_; dsimp only)); refine box_event ?hg (N := 9) ?hd (cs := #[.int .i64 0, .int .i64 0]) (t := 39) ?hr ?_; (case hd => rfl); (case hg => rfl); (case hr => first | (go_simp; done) | (go_simp; rfl)); intro gb103 hg w34 hbox hb; have n0_ := Aside0.mk (blk_below (g := gb101) (o := .cells #[.int .i64 x102000_1, .int .i64 x102001_1] 39 (0, 0)) (by (with_reducible repeat (first | refine blk_drewN ?_ _ | refine blk_drew ?_ | refine blk_alloc ?_ _)); exact BK101.out) hb); have n1_ := Aside0.mk (below_step (by repeat (first | (with_reducible first | exact HB.out | apply below_alloc | apply pw_below_drewN | apply below_drew1 | refine below_set ?_ GE101.out) | exact HB.out)) hb); have n2_ := Aside0.mk (hbox); have n3_ := Aside0.mk ((by rw [hg]; exact (below_size (by repeat (first | (with_reducible first | exact HB.out | apply below_alloc | apply pw_below_drewN | apply below_drew1 | refine below_set ?_ GE101.out) | exact HB.out))) : w.heap.size ≤ gb103)); have n4_ := Aside0.mk ((by rw [hg]; exact (below_size (by repeat (first | (with_reducible first | exact HB.out | apply below_alloc | apply pw_below_drewN | apply below_drew1 | refine below_set ?_ GE101.out) | exact HB.out))) : w.heap.size ≤ gb103)); have n5_ := Aside0.mk ((by rw [hg]; exact Nat.ne_of_lt (blk_lt (g := gb101) (o := .cells #[.int .i64 x102000_1, .int .i64 x102001_1] 39 (0, 0)) (by (with_reducible repeat (first | refine blk_drewN ?_ _ | refine blk_drew ?_ | refine blk_alloc ?_ _)); exact BK101.out)) : gb101 ≠ gb103)); have n6_ := Aside0.mk ((by rw [hg]; exact Nat.ne_of_gt (blk_lt (g := gb101) (o := .cells #[.int .i64 x102000_1, .int .i64 x102001_1] 39 (0, 0)) (by (with_reducible repeat (first | refine blk_drewN ?_ _ | refine blk_drew ?_ | refine blk_alloc ?_ _)); exact BK101.out)) : gb103 ≠ gb101)); clear BK101; clear HB; have BK101 := n0_; have HB := n1_; have BK103 := n2_; have GW103 := n3_; have GE103 := n4_; have NB101_103 := n5_; have NB103_101 := n6_; clear n0_ n1_ n2_ n3_ n4_ n5_ n6_; clear hb hbox hg; have hnb35 := NB103_101.out; have hnc35 := NB101_103.out; have hcz36_0 : w34.cell? ⟨gb103, 0, none⟩ = some (.int .i64 0) := (blk_cell BK103.out 0).trans rfl; have hcz36_1 : w34.cell? ⟨gb103, 1, none⟩ = some (.int .i64 0) := (blk_cell BK103.out 1).trans rfl; have hfz36_0 := blk_frozen BK103.out 0; have hfz36_1 := blk_frozen BK103.out 1; have hcz37_0 : w34.cell? ⟨gb101, 0, none⟩ = some (.int .i64 x102000_1) := (blk_cell BK101.out 0).trans rfl; have hcz37_1 : w34.cell? ⟨gb101, 1, none⟩ = some (.int .i64 x102001_1) := (blk_cell BK101.out 1).trans rfl; have hfz37_0 := blk_frozen BK101.out 0; have hfz37_1 := blk_frozen BK101.out 1; have p104 : 0 ≤ (((rd_T39 l2 x13_1).f0) : Int) := of_decide_eq_true (by first | (with_reducible assumption) | assumption); have q104 : ((rd_T39 l2 x13_1).f0) < (l0.length : Int) := of_decide_eq_true (by first | (with_reducible assumption) | assumption); obtain ⟨ad104, e104, hx104_0⟩ := Kd.at_int HR0.out ((rd_T39 l2 x13_1).f0) p104 q104; cases e104; have hn104_0 : ad104.block ≠ gb103 := Nat.ne_of_lt (Nat.lt_of_lt_of_le (by have := World.block_lt_of_cell? _ _ hx104_0; first | rwa [add_block] at this | exact this) GW103.out); have hn104_1 : ad104.block ≠ gb103 := Nat.ne_of_lt (Nat.lt_of_lt_of_le (by have := World.block_lt_of_cell? _ _ hx104_0; first | rwa [add_block] at this | exact this) GW103.out); replace hx104_0 := (HB.out.cell (World.block_lt_of_cell? w _ hx104_0)).trans hx104_0; replace hx104_0 := (cell_far (p := ⟨gb103, 0, none⟩) (by first | (rw [add_block]; exact hn104_0) | (show (Addr.add _ _).block ≠ _; rw [add_block]; exact hn104_0) | exact hn104_0) (.int .i64 ((rd_T39 l2 x13_1).f0))).trans hx104_0; replace hx104_0 := (cell_far (p := ⟨gb103, 1, none⟩) (by first | (rw [add_block]; exact hn104_1) | (show (Addr.add _ _).block ≠ _; rw [add_block]; exact hn104_1) | exact hn104_1) (.int .i64 ((rd_T39 l2 x13_1).f1))).trans hx104_0; (try have hy104_0 := fun (n_ : Nat) => (show ((((w34.drewN n_).setCell ⟨gb103, 0, none⟩ (.int .i64 ((rd_T39 l2 x13_1).f0))).setCell ⟨gb103, 1, none⟩ (.int .i64 ((rd_T39 l2 x13_1).f1)))).cell? _ = some _ from hx104_0)); clear hn104_0; clear hn104_1; replace p104 := eq_true p104; replace q104 := eq_true q104; have p105 : 0 ≤ (((rd_T39 l2 x13_1).f1) : Int) := of_decide_eq_true (by first | (with_reducible assumption) | assumption); have q105 : ((rd_T39 l2 x13_1).f1) < (l1.length : Int) := of_decide_eq_true (by first | (with_reducible assumption) | assumption); obtain ⟨ad105, e105, hx105_0⟩ := Kd.at_int HR1.out ((rd_T39 l2 x13_1).f1) p105 q105; cases e105; have hn105_0 : ad105.block ≠ gb103 := Nat.ne_of_lt (Nat.lt_of_lt_of_le (by have := World.block_lt_of_cell? _ _ hx105_0; first | rwa [add_block] at this | exact this) GW103.out); have hn105_1 : ad105.block ≠ gb103 := Nat.ne_of_lt (Nat.lt_of_lt_of_le (by have := World.block_lt_of_cell? _ _ hx105_0; first | rwa [add_block] at this | exact this) GW103.out); replace hx105_0 := (HB.out.cell (World.block_lt_of_cell? w _ hx105_0)).trans hx105_0; replace hx105_0 := (cell_far (p := ⟨gb103, 0, none⟩) (by first | (rw [add_block]; exact hn105_0) | (show (Addr.add _ _).block ≠ _; rw [add_block]; exact hn105_0) | exact hn105_0) (.int .i64 ((rd_T39 l2 x13_1).f0))).trans hx105_0; replace hx105_0 := (cell_far (p := ⟨gb103, 1, none⟩) (by first | (rw [add_block]; exact hn105_1) | (show (Addr.add _ _).block ≠ _; rw [add_block]; exact hn105_1) | exact hn105_1) (.int .i64 ((rd_T39 l2 x13_1).f1))).trans hx105_0; (try have hy105_0 := fun (n_ : Nat) => (show ((((w34.drewN n_).setCell ⟨gb103, 0, none⟩ (.int .i64 ((rd_T39 l2 x13_1).f0))).setCell ⟨gb103, 1, none⟩ (.int .i64 ((rd_T39 l2 x13_1).f1)))).cell? _ = some _ from hx105_0)); clear hn105_0; clear hn105_1; replace p105 := eq_true p105; replace q105 := eq_true q105)); try go_wp2_with (first | ((with_reducible refine gate_dst (N := 9) rfl ?_); (try (refine gate_guard (by rfl) ?_; dsimp only)); refine box_event ?hg (N := 9) ?hd (cs := #[.int .i64 0, .int .i64 0]) (t := 39) ?hr ?_; (case hd => rfl); (case hg => rfl); (case hr => first | (go_simp; done) | (go_simp; rfl)); intro gb103 hg w34 hbox hb; have n0_ := Aside0.mk (blk_below (g := gb101) (o := .cells #[.int .i64 x102000_1, .int .i64 x102001_1] 39 (0, 0)) (by (with_reducible repeat (first | refine blk_drewN ?_ _ | refine blk_drew ?_ | refine blk_alloc ?_ _)); exact BK101.out) hb); have n1_ := Aside0.mk (below_step (by repeat (first | (with_reducible first | exact HB.out | apply below_alloc | apply pw_below_drewN | apply below_drew1 | refine below_set ?_ GE101.out) | exact HB.out)) hb); have n2_ := Aside0.mk (hbox); have n3_ := Aside0.mk ((by rw [hg]; exact (below_size (by repeat (first | (with_reducible first | exact HB.out | apply below_alloc | apply pw_below_drewN | apply below_drew1 | refine below_set ?_ GE101.out) | exact HB.out))) : w.heap.size ≤ gb103)); have n4_ := Aside0.mk ((by rw [hg]; exact (below_size (by repeat (first | (with_reducible first | exact HB.out | apply below_alloc | apply pw_below_drewN | apply below_drew1 | refine below_set ?_ GE101.out) | exact HB.out))) : w.heap.size ≤ gb103)); have n5_ := Aside0.mk ((by rw [hg]; exact Nat.ne_of_lt (blk_lt (g := gb101) (o := .cells #[.int .i64 x102000_1, .int .i64 x102001_1] 39 (0, 0)) (by (with_reducible repeat (first | refine blk_drewN ?_ _ | refine blk_drew ?_ | refine blk_alloc ?_ _)); exact BK101.out)) : gb101 ≠ gb103)); have n6_ := Aside0.mk ((by rw [hg]; exact Nat.ne_of_gt (blk_lt (g := gb101) (o := .cells #[.int .i64 x102000_1, .int .i64 x102001_1] 39 (0, 0)) (by (with_reducible repeat (first | refine blk_drewN ?_ _ | refine blk_drew ?_ | refine blk_alloc ?_ _)); exact BK101.out)) : gb103 ≠ gb101)); clear BK101; clear HB; have BK101 := n0_; have HB := n1_; have BK103 := n2_; have GW103 := n3_; have GE103 := n4_; have NB101_103 := n5_; have NB103_101 := n6_; clear n0_ n1_ n2_ n3_ n4_ n5_ n6_; clear hb hbox hg; have hnb35 := NB103_101.out; have hnc35 := NB101_103.out; have hcz36_0 : w34.cell? ⟨gb103, 0, none⟩ = some (.int .i64 0) := (blk_cell BK103.out 0).trans rfl; have hcz36_1 : w34.cell? ⟨gb103, 1, none⟩ = some (.int .i64 0) := (blk_cell BK103.out 1).trans rfl; have hfz36_0 := blk_frozen BK103.out 0; have hfz36_1 := blk_frozen BK103.out 1; have hcz37_0 : w34.cell? ⟨gb101, 0, none⟩ = some (.int .i64 x102000_1) := (blk_cell BK101.out 0).trans rfl; have hcz37_1 : w34.cell? ⟨gb101, 1, none⟩ = some (.int .i64 x102001_1) := (blk_cell BK101.out 1).trans rfl; have hfz37_0 := blk_frozen BK101.out 0; have hfz37_1 := blk_frozen BK101.out 1; have p104 : 0 ≤ (((rd_T39 l2 x13_1).f0) : Int) := of_decide_eq_true (by first | (with_reducible assumption) | assumption); have q104 : ((rd_T39 l2 x13_1).f0) < (l0.length : Int) := of_decide_eq_true (by first | (with_reducible assumption) | assumption); obtain ⟨ad104, e104, hx104_0⟩ := Kd.at_int HR0.out ((rd_T39 l2 x13_1).f0) p104 q104; cases e104; have hn104_0 : ad104.block ≠ gb103 := Nat.ne_of_lt (Nat.lt_of_lt_of_le (by have := World.block_lt_of_cell? _ _ hx104_0; first | rwa [add_block] at this | exact this) GW103.out); have hn104_1 : ad104.block ≠ gb103 := Nat.ne_of_lt (Nat.lt_of_lt_of_le (by have := World.block_lt_of_cell? _ _ hx104_0; first | rwa [add_block] at this | exact this) GW103.out); replace hx104_0 := (HB.out.cell (World.block_lt_of_cell? w _ hx104_0)).trans hx104_0; replace hx104_0 := (cell_far (p := ⟨gb103, 0, none⟩) (by first | (rw [add_block]; exact hn104_0) | (show (Addr.add _ _).block ≠ _; rw [add_block]; exact hn104_0) | exact hn104_0) (.int .i64 ((rd_T39 l2 x13_1).f0))).trans hx104_0; replace hx104_0 := (cell_far (p := ⟨gb103, 1, none⟩) (by first | (rw [add_block]; exact hn104_1) | (show (Addr.add _ _).block ≠ _; rw [add_block]; exact hn104_1) | exact hn104_1) (.int .i64 ((rd_T39 l2 x13_1).f1))).trans hx104_0; (try have hy104_0 := fun (n_ : Nat) => (show ((((w34.drewN n_).setCell ⟨gb103, 0, none⟩ (.int .i64 ((rd_T39 l2 x13_1).f0))).setCell ⟨gb103, 1, none⟩ (.int .i64 ((rd_T39 l2 x13_1).f1)))).cell? _ = some _ from hx104_0)); clear hn104_0; clear hn104_1; replace p104 := eq_true p104; replace q104 := eq_true q104; have p105 : 0 ≤ (((rd_T39 l2 x13_1).f1) : Int) := of_decide_eq_true (by first | (with_reducible assumption) | assumption); have q105 : ((rd_T39 l2 x13_1).f1) < (l1.length : Int) := of_decide_eq_true (by first | (with_reducible assumption) | assumption); obtain ⟨ad105, e105, hx105_0⟩ := Kd.at_int HR1.out ((rd_T39 l2 x13_1).f1) p105 q105; cases e105; have hn105_0 : ad105.block ≠ gb103 := Nat.ne_of_lt (Nat.lt_of_lt_of_le (by have := World.block_lt_of_cell? _ _ hx105_0; first | rwa [add_block] at this | exact this) GW103.out); have hn105_1 : ad105.block ≠ gb103 := Nat.ne_of_lt (Nat.lt_of_lt_of_le (by have := World.block_lt_of_cell? _ _ hx105_0; first | rwa [add_block] at this | exact this) GW103.out); replace hx105_0 := (HB.out.cell (World.block_lt_of_cell? w _ hx105_0)).trans hx105_0; replace hx105_0 := (cell_far (p := ⟨gb103, 0, none⟩) (by first | (rw [add_block]; exact hn105_0) | (show (Addr.add _ _).block ≠ _; rw [add_block]; exact hn105_0) | exact hn105_0) (.int .i64 ((rd_T39 l2 x13_1).f0))).trans hx105_0; replace hx105_0 := (cell_far (p := ⟨gb103, 1, none⟩) (by first | (rw [add_block]; exact hn105_1) | (show (Addr.add _ _).block ≠ _; rw [add_block]; exact hn105_1) | exact hn105_1) (.int .i64 ((rd_T39 l2 x13_1).f1))).trans hx105_0; (try have hy105_0 := fun (n_ : Nat) => (show ((((w34.drewN n_).setCell ⟨gb103, 0, none⟩ (.int .i64 ((rd_T39 l2 x13_1).f0))).setCell ⟨gb103, 1, none⟩ (.int .i64 ((rd_T39 l2 x13_1).f1)))).cell? _ = some _ from hx105_0)); clear hn105_0; clear hn105_1; replace p105 := eq_true p105; replace q105 := eq_true q105)))
                              go_roundg k1
                              case measure => have := HK1.out; omega
                              case rel => exact ⟨(wrap64 (x13_1 + 1)), ((rd_T39 l2 x13_1).f0), ((rd_T39 l2 x13_1).f1), (by first | rfl | (simp; done) | (simp [*]; done)), H', ⟨by have := HK1.out; omega⟩, ⟨by (with_reducible repeat (first | refine blk_drewN ?_ _ | refine blk_drew ?_ | refine blk_alloc ?_ _)); refine blk_put (cs := #[.int .i64 ((rd_T39 l2 x13_1).f0), .int .i64 x102001_1]) ?_ 1 _ rfl; (with_reducible repeat (first | refine blk_drewN ?_ _ | refine blk_drew ?_ | refine blk_alloc ?_ _)); refine blk_put (cs := #[.int .i64 x102000_1, .int .i64 x102001_1]) ?_ 0 _ rfl; (with_reducible repeat (first | refine blk_drewN ?_ _ | refine blk_drew ?_ | refine blk_alloc ?_ _)); refine blk_far ?_ NB101_103.out _; (with_reducible repeat (first | refine blk_drewN ?_ _ | refine blk_drew ?_ | refine blk_alloc ?_ _)); refine blk_far ?_ NB101_103.out _; (with_reducible repeat (first | refine blk_drewN ?_ _ | refine blk_drew ?_ | refine blk_alloc ?_ _)); exact BK101.out⟩, ⟨by repeat (first | (with_reducible first | exact HB.out | apply below_alloc | apply pw_below_drewN | apply below_drew1 | refine below_set ?_ GE101.out | refine below_set ?_ GE103.out) | exact HB.out)⟩⟩
                            · rw [if_neg c33] at H
                              have c33b0 : ((rd l0 ((rd_T39 l2 x13_1).f0)) == (rd l1 ((rd_T39 l2 x13_1).f1))) = false := beq_eq_false_iff_ne.mpr c33
                              have c33b1 : ((rd l0 ((rd_T39 l2 x13_1).f0)) != (rd l1 ((rd_T39 l2 x13_1).f1))) = true := bne_iff_ne.mpr c33
                              obtain rfl := Option.some.inj H
                              have p102 : 0 ≤ (x13_1 : Int) := of_decide_eq_true (by first | (with_reducible assumption) | assumption)
                              have q102 : x13_1 < (l2.length : Int) := of_decide_eq_true (by first | (with_reducible assumption) | assumption)
                              obtain ⟨ad102, e102, hx102_0, hx102_1⟩ := at_T39 HR2.out x13_1 p102 q102
                              cases e102
                              replace hx102_0 := (HB.out.cell (World.block_lt_of_cell? w _ hx102_0)).trans hx102_0
                              replace hx102_1 := (HB.out.cell (World.block_lt_of_cell? w _ hx102_1)).trans hx102_1
                              replace p102 := eq_true p102
                              replace q102 := eq_true q102
                              go_wp2_with (first | ((with_reducible refine gate_dst (N := 9) rfl ?_); (try (refine gate_guard (by rfl) ?_; dsimp only)); refine box_event ?hg (N := 9) ?hd (cs := #[.int .i64 0, .int .i64 0]) (t := 39) ?hr ?_; (case hd => rfl); (case hg => rfl); (case hr => first | (go_simp; done) | (go_simp; rfl)); intro gb103 hg w38 hbox hb; have n0_ := Aside0.mk (blk_below (g := gb101) (o := .cells #[.int .i64 x102000_1, .int .i64 x102001_1] 39 (0, 0)) (by (with_reducible repeat (first | refine blk_drewN ?_ _ | refine blk_drew ?_ | refine blk_alloc ?_ _)); exact BK101.out) hb); have n1_ := Aside0.mk (below_step (by repeat (first | (with_reducible first | exact HB.out | apply below_alloc | apply pw_below_drewN | apply below_drew1 | refine below_set ?_ GE101.out) | exact HB.out)) hb); have n2_ := Aside0.mk (hbox); have n3_ := Aside0.mk ((by rw [hg]; exact (below_size (by repeat (first | (with_reducible first | exact HB.out | apply below_alloc | apply pw_below_drewN | apply below_drew1 | refine below_set ?_ GE101.out) | exact HB.out))) : w.heap.size ≤ gb103)); have n4_ := Aside0.mk ((by rw [hg]; exact (below_size (by repeat (first | (with_reducible first | exact HB.out | apply below_alloc | apply pw_below_drewN | apply below_drew1 | refine below_set ?_ GE101.out) | exact HB.out))) : w.heap.size ≤ gb103)); have n5_ := Aside0.mk ((by rw [hg]; exact Nat.ne_of_lt (blk_lt (g := gb101) (o := .cells #[.int .i64 x102000_1, .int .i64 x102001_1] 39 (0, 0)) (by (with_reducible repeat (first | refine blk_drewN ?_ _ | refine blk_drew ?_ | refine blk_alloc ?_ _)); exact BK101.out)) : gb101 ≠ gb103)); have n6_ := Aside0.mk ((by rw [hg]; exact Nat.ne_of_gt (blk_lt (g := gb101) (o := .cells #[.int .i64 x102000_1, .int .i64 x102001_1] 39 (0, 0)) (by (with_reducible repeat (first | refine blk_drewN ?_ _ | refine blk_drew ?_ | refine blk_alloc ?_ _)); exact BK101.out)) : gb103 ≠ gb101)); clear BK101; clear HB; have BK101 := n0_; have HB := n1_; have BK103 := n2_; have GW103 := n3_; have GE103 := n4_; have NB101_103 := n5_; have NB103_101 := n6_; clear n0_ n1_ n2_ n3_ n4_ n5_ n6_; clear hb hbox hg; have hnb39 := NB103_101.out; have hnc39 := NB101_103.out; have hcz40_0 : w38.cell? ⟨gb103, 0, none⟩ = some (.int .i64 0) := (blk_cell BK103.out 0).trans rfl; have hcz40_1 : w38.cell? ⟨gb103, 1, none⟩ = some (.int .i64 0) := (blk_cell BK103.out 1).trans rfl; have hfz40_0 := blk_frozen BK103.out 0; have hfz40_1 := blk_frozen BK103.out 1; have hcz41_0 : w38.cell? ⟨gb101, 0, none⟩ = some (.int .i64 x102000_1) := (blk_cell BK101.out 0).trans rfl; have hcz41_1 : w38.cell? ⟨gb101, 1, none⟩ = some (.int .i64 x102001_1) := (blk_cell BK101.out 1).trans rfl; have hfz41_0 := blk_frozen BK101.out 0; have hfz41_1 := blk_frozen BK101.out 1; have p104 : 0 ≤ (((rd_T39 l2 x13_1).f0) : Int) := of_decide_eq_true (by first | (with_reducible assumption) | assumption); have q104 : ((rd_T39 l2 x13_1).f0) < (l0.length : Int) := of_decide_eq_true (by first | (with_reducible assumption) | assumption); obtain ⟨ad104, e104, hx104_0⟩ := Kd.at_int HR0.out ((rd_T39 l2 x13_1).f0) p104 q104; cases e104; have hn104_0 : ad104.block ≠ gb103 := Nat.ne_of_lt (Nat.lt_of_lt_of_le (by have := World.block_lt_of_cell? _ _ hx104_0; first | rwa [add_block] at this | exact this) GW103.out); have hn104_1 : ad104.block ≠ gb103 := Nat.ne_of_lt (Nat.lt_of_lt_of_le (by have := World.block_lt_of_cell? _ _ hx104_0; first | rwa [add_block] at this | exact this) GW103.out); replace hx104_0 := (HB.out.cell (World.block_lt_of_cell? w _ hx104_0)).trans hx104_0; replace hx104_0 := (cell_far (p := ⟨gb103, 0, none⟩) (by first | (rw [add_block]; exact hn104_0) | (show (Addr.add _ _).block ≠ _; rw [add_block]; exact hn104_0) | exact hn104_0) (.int .i64 ((rd_T39 l2 x13_1).f0))).trans hx104_0; replace hx104_0 := (cell_far (p := ⟨gb103, 1, none⟩) (by first | (rw [add_block]; exact hn104_1) | (show (Addr.add _ _).block ≠ _; rw [add_block]; exact hn104_1) | exact hn104_1) (.int .i64 ((rd_T39 l2 x13_1).f1))).trans hx104_0; (try have hy104_0 := fun (n_ : Nat) => (show ((((w38.drewN n_).setCell ⟨gb103, 0, none⟩ (.int .i64 ((rd_T39 l2 x13_1).f0))).setCell ⟨gb103, 1, none⟩ (.int .i64 ((rd_T39 l2 x13_1).f1)))).cell? _ = some _ from hx104_0)); clear hn104_0; clear hn104_1; replace p104 := eq_true p104; replace q104 := eq_true q104; have p105 : 0 ≤ (((rd_T39 l2 x13_1).f1) : Int) := of_decide_eq_true (by first | (with_reducible assumption) | assumption); have q105 : ((rd_T39 l2 x13_1).f1) < (l1.length : Int) := of_decide_eq_true (by first | (with_reducible assumption) | assumption); obtain ⟨ad105, e105, hx105_0⟩ := Kd.at_int HR1.out ((rd_T39 l2 x13_1).f1) p105 q105; cases e105; have hn105_0 : ad105.block ≠ gb103 := Nat.ne_of_lt (Nat.lt_of_lt_of_le (by have := World.block_lt_of_cell? _ _ hx105_0; first | rwa [add_block] at this | exact this) GW103.out); have hn105_1 : ad105.block ≠ gb103 := Nat.ne_of_lt (Nat.lt_of_lt_of_le (by have := World.block_lt_of_cell? _ _ hx105_0; first | rwa [add_block] at this | exact this) GW103.out); replace hx105_0 := (HB.out.cell (World.block_lt_of_cell? w _ hx105_0)).trans hx105_0; replace hx105_0 := (cell_far (p := ⟨gb103, 0, none⟩) (by first | (rw [add_block]; exact hn105_0) | (show (Addr.add _ _).block ≠ _; rw [add_block]; exact hn105_0) | exact hn105_0) (.int .i64 ((rd_T39 l2 x13_1).f0))).trans hx105_0; replace hx105_0 := (cell_far (p := ⟨gb103, 1, none⟩) (by first | (rw [add_block]; exact hn105_1) | (show (Addr.add _ _).block ≠ _; rw [add_block]; exact hn105_1) | exact hn105_1) (.int .i64 ((rd_T39 l2 x13_1).f1))).trans hx105_0; (try have hy105_0 := fun (n_ : Nat) => (show ((((w38.drewN n_).setCell ⟨gb103, 0, none⟩ (.int .i64 ((rd_T39 l2 x13_1).f0))).setCell ⟨gb103, 1, none⟩ (.int .i64 ((rd_T39 l2 x13_1).f1)))).cell? _ = some _ from hx105_0)); clear hn105_0; clear hn105_1; replace p105 := eq_true p105; replace q105 := eq_true q105))
                              repeat (go_quiet (first | ((with_reducible refine gate_dst (N := 9) rfl ?_); (try (refine gate_guard (by rfl) ?_; dsimp only)); refine box_event ?hg (N := 9) ?hd (cs := #[.int .i64 0, .int .i64 0]) (t := 39) ?hr ?_; (case hd => rfl); (case hg => rfl); (case hr => first | (go_simp; done) | (go_simp; rfl)); intro gb103 hg w38 hbox hb; have n0_ := Aside0.mk (blk_below (g := gb101) (o := .cells #[.int .i64 x102000_1, .int .i64 x102001_1] 39 (0, 0)) (by (with_reducible repeat (first | refine blk_drewN ?_ _ | refine blk_drew ?_ | refine blk_alloc ?_ _)); exact BK101.out) hb); have n1_ := Aside0.mk (below_step (by repeat (first | (with_reducible first | exact HB.out | apply below_alloc | apply pw_below_drewN | apply below_drew1 | refine below_set ?_ GE101.out) | exact HB.out)) hb); have n2_ := Aside0.mk (hbox); have n3_ := Aside0.mk ((by rw [hg]; exact (below_size (by repeat (first | (with_reducible first | exact HB.out | apply below_alloc | apply pw_below_drewN | apply below_drew1 | refine below_set ?_ GE101.out) | exact HB.out))) : w.heap.size ≤ gb103)); have n4_ := Aside0.mk ((by rw [hg]; exact (below_size (by repeat (first | (with_reducible first | exact HB.out | apply below_alloc | apply pw_below_drewN | apply below_drew1 | refine below_set ?_ GE101.out) | exact HB.out))) : w.heap.size ≤ gb103)); have n5_ := Aside0.mk ((by rw [hg]; exact Nat.ne_of_lt (blk_lt (g := gb101) (o := .cells #[.int .i64 x102000_1, .int .i64 x102001_1] 39 (0, 0)) (by (with_reducible repeat (first | refine blk_drewN ?_ _ | refine blk_drew ?_ | refine blk_alloc ?_ _)); exact BK101.out)) : gb101 ≠ gb103)); have n6_ := Aside0.mk ((by rw [hg]; exact Nat.ne_of_gt (blk_lt (g := gb101) (o := .cells #[.int .i64 x102000_1, .int .i64 x102001_1] 39 (0, 0)) (by (with_reducible repeat (first | refine blk_drewN ?_ _ | refine blk_drew ?_ | refine blk_alloc ?_ _)); exact BK101.out)) : gb103 ≠ gb101)); clear BK101; clear HB; have BK101 := n0_; have HB := n1_; have BK103 := n2_; have GW103 := n3_; have GE103 := n4_; have NB101_103 := n5_; have NB103_101 := n6_; clear n0_ n1_ n2_ n3_ n4_ n5_ n6_; clear hb hbox hg; have hnb39 := NB103_101.out; have hnc39 := NB101_103.out; have hcz40_0 : w38.cell? ⟨gb103, 0, none⟩ = some (.int .i64 0) := (blk_cell BK103.out 0).trans rfl; have hcz40_1 : w38.cell? ⟨gb103, 1, none⟩ = some (.int .i64 0) := (blk_cell BK103.out 1).trans rfl; have hfz40_0 := blk_frozen BK103.out 0; have hfz40_1 := blk_frozen BK103.out 1; have hcz41_0 : w38.cell? ⟨gb101, 0, none⟩ = some (.int .i64 x102000_1) := (blk_cell BK101.out 0).trans rfl; have hcz41_1 : w38.cell? ⟨gb101, 1, none⟩ = some (.int .i64 x102001_1) := (blk_cell BK101.out 1).trans rfl; have hfz41_0 := blk_frozen BK101.out 0; have hfz41_1 := blk_frozen BK101.out 1; have p104 : 0 ≤ (((rd_T39 l2 x13_1).f0) : Int) := of_decide_eq_true (by first | (with_reducible assumption) | assumption); have q104 : ((rd_T39 l2 x13_1).f0) < (l0.length : Int) := of_decide_eq_true (by first | (with_reducible assumption) | assumption); obtain ⟨ad104, e104, hx104_0⟩ := Kd.at_int HR0.out ((rd_T39 l2 x13_1).f0) p104 q104; cases e104; have hn104_0 : ad104.block ≠ gb103 := Nat.ne_of_lt (Nat.lt_of_lt_of_le (by have := World.block_lt_of_cell? _ _ hx104_0; first | rwa [add_block] at this | exact this) GW103.out); have hn104_1 : ad104.block ≠ gb103 := Nat.ne_of_lt (Nat.lt_of_lt_of_le (by have := World.block_lt_of_cell? _ _ hx104_0; first | rwa [add_block] at this | exact this) GW103.out); replace hx104_0 := (HB.out.cell (World.block_lt_of_cell? w _ hx104_0)).trans hx104_0; replace hx104_0 := (cell_far (p := ⟨gb103, 0, none⟩) (by first | (rw [add_block]; exact hn104_0) | (show (Addr.add _ _).block ≠ _; rw [add_block]; exact hn104_0) | exact hn104_0) (.int .i64 ((rd_T39 l2 x13_1).f0))).trans hx104_0; replace hx104_0 := (cell_far (p := ⟨gb103, 1, none⟩) (by first | (rw [add_block]; exact hn104_1) | (show (Addr.add _ _).block ≠ _; rw [add_block]; exact hn104_1) | exact hn104_1) (.int .i64 ((rd_T39 l2 x13_1).f1))).trans hx104_0; (try have hy104_0 := fun (n_ : Nat) => (show ((((w38.drewN n_).setCell ⟨gb103, 0, none⟩ (.int .i64 ((rd_T39 l2 x13_1).f0))).setCell ⟨gb103, 1, none⟩ (.int .i64 ((rd_T39 l2 x13_1).f1)))).cell? _ = some _ from hx104_0)); clear hn104_0; clear hn104_1; replace p104 := eq_true p104; replace q104 := eq_true q104; have p105 : 0 ≤ (((rd_T39 l2 x13_1).f1) : Int) := of_decide_eq_true (by first | (with_reducible assumption) | assumption); have q105 : ((rd_T39 l2 x13_1).f1) < (l1.length : Int) := of_decide_eq_true (by first | (with_reducible assumption) | assumption); obtain ⟨ad105, e105, hx105_0⟩ := Kd.at_int HR1.out ((rd_T39 l2 x13_1).f1) p105 q105; cases e105; have hn105_0 : ad105.block ≠ gb103 := Nat.ne_of_lt (Nat.lt_of_lt_of_le (by have := World.block_lt_of_cell? _ _ hx105_0; first | rwa [add_block] at this | exact this) GW103.out); have hn105_1 : ad105.block ≠ gb103 := Nat.ne_of_lt (Nat.lt_of_lt_of_le (by have := World.block_lt_of_cell? _ _ hx105_0; first | rwa [add_block] at this | exact this) GW103.out); replace hx105_0 := (HB.out.cell (World.block_lt_of_cell? w _ hx105_0)).trans hx105_0; replace hx105_0 := (cell_far (p := ⟨gb103, 0, none⟩) (by first | (rw [add_block]; exact hn105_0) | (show (Addr.add _ _).block ≠ _; rw [add_block]; exact hn105_0) | exact hn105_0) (.int .i64 ((rd_T39 l2 x13_1).f0))).trans hx105_0; replace hx105_0 := (cell_far (p := ⟨gb103, 1, none⟩) (by first | (rw [add_block]; exact hn105_1) | (show (Addr.add _ _).block ≠ _; rw [add_block]; exact hn105_1) | exact hn105_1) (.int .i64 ((rd_T39 l2 x13_1).f1))).trans hx105_0; (try have hy105_0 := fun (n_ : Nat) => (show ((((w38.drewN n_).setCell ⟨gb103, 0, none⟩ (.int .i64 ((rd_T39 l2 x13_1).f0))).setCell ⟨gb103, 1, none⟩ (.int .i64 ((rd_T39 l2 x13_1).f1)))).cell? _ = some _ from hx105_0)); clear hn105_0; clear hn105_1; replace p105 := eq_true p105; replace q105 := eq_true q105)); try go_wp2_with (first | ((with_reducible refine gate_dst (N := 9) rfl ?_); (try (refine gate_guard (by rfl) ?_; dsimp only)); refine box_event ?hg (N := 9) ?hd (cs := #[.int .i64 0, .int .i64 0]) (t := 39) ?hr ?_; (case hd => rfl); (case hg => rfl); (case hr => first | (go_simp; done) | (go_simp; rfl)); intro gb103 hg w38 hbox hb; have n0_ := Aside0.mk (blk_below (g := gb101) (o := .cells #[.int .i64 x102000_1, .int .i64 x102001_1] 39 (0, 0)) (by (with_reducible repeat (first | refine blk_drewN ?_ _ | refine blk_drew ?_ | refine blk_alloc ?_ _)); exact BK101.out) hb); have n1_ := Aside0.mk (below_step (by repeat (first | (with_reducible first | exact HB.out | apply below_alloc | apply pw_below_drewN | apply below_drew1 | refine below_set ?_ GE101.out) | exact HB.out)) hb); have n2_ := Aside0.mk (hbox); have n3_ := Aside0.mk ((by rw [hg]; exact (below_size (by repeat (first | (with_reducible first | exact HB.out | apply below_alloc | apply pw_below_drewN | apply below_drew1 | refine below_set ?_ GE101.out) | exact HB.out))) : w.heap.size ≤ gb103)); have n4_ := Aside0.mk ((by rw [hg]; exact (below_size (by repeat (first | (with_reducible first | exact HB.out | apply below_alloc | apply pw_below_drewN | apply below_drew1 | refine below_set ?_ GE101.out) | exact HB.out))) : w.heap.size ≤ gb103)); have n5_ := Aside0.mk ((by rw [hg]; exact Nat.ne_of_lt (blk_lt (g := gb101) (o := .cells #[.int .i64 x102000_1, .int .i64 x102001_1] 39 (0, 0)) (by (with_reducible repeat (first | refine blk_drewN ?_ _ | refine blk_drew ?_ | refine blk_alloc ?_ _)); exact BK101.out)) : gb101 ≠ gb103)); have n6_ := Aside0.mk ((by rw [hg]; exact Nat.ne_of_gt (blk_lt (g := gb101) (o := .cells #[.int .i64 x102000_1, .int .i64 x102001_1] 39 (0, 0)) (by (with_reducible repeat (first | refine blk_drewN ?_ _ | refine blk_drew ?_ | refine blk_alloc ?_ _)); exact BK101.out)) : gb103 ≠ gb101)); clear BK101; clear HB; have BK101 := n0_; have HB := n1_; have BK103 := n2_; have GW103 := n3_; have GE103 := n4_; have NB101_103 := n5_; have NB103_101 := n6_; clear n0_ n1_ n2_ n3_ n4_ n5_ n6_; clear hb hbox hg; have hnb39 := NB103_101.out; have hnc39 := NB101_103.out; have hcz40_0 : w38.cell? ⟨gb103, 0, none⟩ = some (.int .i64 0) := (blk_cell BK103.out 0).trans rfl; have hcz40_1 : w38.cell? ⟨gb103, 1, none⟩ = some (.int .i64 0) := (blk_cell BK103.out 1).trans rfl; have hfz40_0 := blk_frozen BK103.out 0; have hfz40_1 := blk_frozen BK103.out 1; have hcz41_0 : w38.cell? ⟨gb101, 0, none⟩ = some (.int .i64 x102000_1) := (blk_cell BK101.out 0).trans rfl; have hcz41_1 : w38.cell? ⟨gb101, 1, none⟩ = some (.int .i64 x102001_1) := (blk_cell BK101.out 1).trans rfl; have hfz41_0 := blk_frozen BK101.out 0; have hfz41_1 := blk_frozen BK101.out 1; have p104 : 0 ≤ (((rd_T39 l2 x13_1).f0) : Int) := of_decide_eq_true (by first | (with_reducible assumption) | assumption); have q104 : ((rd_T39 l2 x13_1).f0) < (l0.length : Int) := of_decide_eq_true (by first | (with_reducible assumption) | assumption); obtain ⟨ad104, e104, hx104_0⟩ := Kd.at_int HR0.out ((rd_T39 l2 x13_1).f0) p104 q104; cases e104; have hn104_0 : ad104.block ≠ gb103 := Nat.ne_of_lt (Nat.lt_of_lt_of_le (by have := World.block_lt_of_cell? _ _ hx104_0; first | rwa [add_block] at this | exact this) GW103.out); have hn104_1 : ad104.block ≠ gb103 := Nat.ne_of_lt (Nat.lt_of_lt_of_le (by have := World.block_lt_of_cell? _ _ hx104_0; first | rwa [add_block] at this | exact this) GW103.out); replace hx104_0 := (HB.out.cell (World.block_lt_of_cell? w _ hx104_0)).trans hx104_0; replace hx104_0 := (cell_far (p := ⟨gb103, 0, none⟩) (by first | (rw [add_block]; exact hn104_0) | (show (Addr.add _ _).block ≠ _; rw [add_block]; exact hn104_0) | exact hn104_0) (.int .i64 ((rd_T39 l2 x13_1).f0))).trans hx104_0; replace hx104_0 := (cell_far (p := ⟨gb103, 1, none⟩) (by first | (rw [add_block]; exact hn104_1) | (show (Addr.add _ _).block ≠ _; rw [add_block]; exact hn104_1) | exact hn104_1) (.int .i64 ((rd_T39 l2 x13_1).f1))).trans hx104_0; (try have hy104_0 := fun (n_ : Nat) => (show ((((w38.drewN n_).setCell ⟨gb103, 0, none⟩ (.int .i64 ((rd_T39 l2 x13_1).f0))).setCell ⟨gb103, 1, none⟩ (.int .i64 ((rd_T39 l2 x13_1).f1)))).cell? _ = some _ from hx104_0)); clear hn104_0; clear hn104_1; replace p104 := eq_true p104; replace q104 := eq_true q104; have p105 : 0 ≤ (((rd_T39 l2 x13_1).f1) : Int) := of_decide_eq_true (by first | (with_reducible assumption) | assumption); have q105 : ((rd_T39 l2 x13_1).f1) < (l1.length : Int) := of_decide_eq_true (by first | (with_reducible assumption) | assumption); obtain ⟨ad105, e105, hx105_0⟩ := Kd.at_int HR1.out ((rd_T39 l2 x13_1).f1) p105 q105; cases e105; have hn105_0 : ad105.block ≠ gb103 := Nat.ne_of_lt (Nat.lt_of_lt_of_le (by have := World.block_lt_of_cell? _ _ hx105_0; first | rwa [add_block] at this | exact this) GW103.out); have hn105_1 : ad105.block ≠ gb103 := Nat.ne_of_lt (Nat.lt_of_lt_of_le (by have := World.block_lt_of_cell? _ _ hx105_0; first | rwa [add_block] at this | exact this) GW103.out); replace hx105_0 := (HB.out.cell (World.block_lt_of_cell? w _ hx105_0)).trans hx105_0; replace hx105_0 := (cell_far (p := ⟨gb103, 0, none⟩) (by first | (rw [add_block]; exact hn105_0) | (show (Addr.add _ _).block ≠ _; rw [add_block]; exact hn105_0) | exact hn105_0) (.int .i64 ((rd_T39 l2 x13_1).f0))).trans hx105_0; replace hx105_0 := (cell_far (p := ⟨gb103, 1, none⟩) (by first | (rw [add_block]; exact hn105_1) | (show (Addr.add _ _).block ≠ _; rw [add_block]; exact hn105_1) | exact hn105_1) (.int .i64 ((rd_T39 l2 x13_1).f1))).trans hx105_0; (try have hy105_0 := fun (n_ : Nat) => (show ((((w38.drewN n_).setCell ⟨gb103, 0, none⟩ (.int .i64 ((rd_T39 l2 x13_1).f0))).setCell ⟨gb103, 1, none⟩ (.int .i64 ((rd_T39 l2 x13_1).f1)))).cell? _ = some _ from hx105_0)); clear hn105_0; clear hn105_1; replace p105 := eq_true p105; replace q105 := eq_true q105)))
                              go_ret
                              exact ⟨by first | rfl | (simp [errW_none, errW_some] <;> rfl) | (simp [*, errW_none, errW_some] <;> rfl), by repeat (first | (with_reducible first | exact HB.out | apply below_alloc | apply pw_below_drewN | apply below_drew1 | refine below_set ?_ GE101.out | refine below_set ?_ GE103.out) | exact HB.out)⟩
                          · rw [if_neg c32] at H
                            exact absurd H (by simp)
                        · rw [if_neg c31] at H
                          exact absurd H (by simp)
                      · rw [if_neg c30] at H
                        exact absurd H (by simp)
                    · rw [if_neg c29] at H
                      exact absurd H (by simp)
          · rw [if_neg c8] at H
            exact absurd H (by simp)
        · rw [if_neg c7] at H
          exact absurd H (by simp)
      · rw [if_neg c6] at H
        have c6b0 : decide (x13_1 < (l2.length : Int)) = false := decide_eq_false c6
        clear c6
        obtain rfl := Option.some.inj H
        go_wp2
        repeat (go_quiet (fail); try go_wp2)
        go_ret
        exact ⟨by first | rfl | (simp [errW_none, errW_some] <;> rfl) | (simp [*, errW_none, errW_some] <;> rfl), by repeat (first | (with_reducible first | exact HB.out | apply below_alloc | apply pw_below_drewN | apply below_drew1 | refine below_set ?_ GE101.out) | exact HB.out)⟩

end Go.Proofs.Ytadafplbgophfaa.PA
end
