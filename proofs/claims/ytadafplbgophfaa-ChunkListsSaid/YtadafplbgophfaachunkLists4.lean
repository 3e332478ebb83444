/- Part 4 of what the row of the law ChunkLists rests on: walks of functions, and plain lemmas. -/
import Derived.Test.YtadafplbgophfaachunkLists1
import Derived.Test.YtadafplbgophfaachunkLists2
import Derived.Test.YtadafplbgophfaachunkLists3
import Derived.DeepKeys
import Derived.Deep.Strs
import Derived.Deep.Grids
import Derived.Deep.SlicePairs
import Derived.OpenShut
import Derived.Laws.IdiomArrays
import Derived.WideShapes
import Derived.ChangeShapes
section
/- Cuts of a row that is read, of any kind, each with the row that it reads. -/
namespace Go.Proofs.Ytadafplbgophfaa.PA
open Go.RowKit Go.Proofs.YtadafplbgophfaaW.PrintWords Go.Proofs.YtadafplbgophfaaW.PrintLast Go.Proofs.YtadafplbgophfaaW.PrintMore
section
variable {α : Type} {P : Program}
theorem cut_lh (k : Kd α) (t e : TypeId) {i : TypeInfo} (ht : P.underlying t = some (.slice e)) (hi : P.info? e = some i) (hsz : i.size = k.sz) (A : Option Addr) (c : Nat) (xs : List α) (a b : Int) (h0 : 0 ≤ a) (h1 : a ≤ b) (hm : b ≤ xs.length) (hc : xs.length ≤ c) :
    ∃ (A' : Option Addr) (c' : Nat), (∀ W : World, (Instr.slice t (.slice A xs.length c) (some (.int .i64 a)) (some (.int .i64 b)) none).run P W = .ok (.slice A' ((xs.take b.toNat).drop a.toNat).length c') W) ∧
      (∀ w : World, k.C w A xs.length xs → k.C w A' ((xs.take b.toNat).drop a.toNat).length ((xs.take b.toNat).drop a.toNat)) ∧ ((xs.take b.toNat).drop a.toNat).length ≤ c' := by
  have hlt : (xs.take b.toNat).length = b.toNat := by rw [List.length_take]; omega
  have hl : ((xs.take b.toNat).drop a.toNat).length = b.toNat - a.toNat := by rw [List.length_drop, hlt]
  refine ⟨if c = a.toNat then A else A.map (·.add (a.toNat * k.sz)), c - a.toNat, fun W => ?_, fun w h => ?_, by rw [hl]; omega⟩
  · rw [hl]; exact cut_mid t e .i64 .i64 ht hi k.sz hsz A xs.length c a b h0 h1 hm hc W
  · exact Kd.C_mid h (by omega) (by omega) hc
theorem cut_l (k : Kd α) (t e : TypeId) {i : TypeInfo} (ht : P.underlying t = some (.slice e)) (hi : P.info? e = some i) (hsz : i.size = k.sz) (A : Option Addr) (c : Nat) (xs : List α) (a : Int) (h0 : 0 ≤ a) (hm : a ≤ xs.length) (hc : xs.length ≤ c) :
    ∃ (A' : Option Addr) (c' : Nat), (∀ W : World, (Instr.slice t (.slice A xs.length c) (some (.int .i64 a)) none none).run P W = .ok (.slice A' (xs.drop a.toNat).length c') W) ∧
      (∀ w : World, k.C w A xs.length xs → k.C w A' (xs.drop a.toNat).length (xs.drop a.toNat)) ∧ (xs.drop a.toNat).length ≤ c' := by
  have hl : (xs.drop a.toNat).length = xs.length - a.toNat := List.length_drop
  refine ⟨if c = a.toNat then A else A.map (·.add (a.toNat * k.sz)), c - a.toNat, fun W => ?_, fun w h => Kd.C_drop h (by omega) hc, by rw [hl]; omega⟩
  have hel : P.elem t = e := by simp [Program.elem, ht]
  have hu : P.underlying t = some (.slice (P.elem t)) := by rw [hel]; exact ht
  rw [run_slice_l W t A xs.length c hu .i64 a h0 (by omega), hel, hl]
  simp [sizeOf, typeInfo, hi, hsz, sliced, Result.andThen]
theorem cut_h (k : Kd α) (t e : TypeId) {i : TypeInfo} (ht : P.underlying t = some (.slice e)) (hi : P.info? e = some i) (hsz : i.size = k.sz) (A : Option Addr) (c : Nat) (xs : List α) (b : Int) (h0 : 0 ≤ b) (hm : b ≤ xs.length) (hc : xs.length ≤ c) :
    (∀ W : World, (Instr.slice t (.slice A xs.length c) none (some (.int .i64 b)) none).run P W = .ok (.slice A (xs.take b.toNat).length c) W) ∧
      (∀ w : World, k.C w A xs.length xs → k.C w A (xs.take b.toNat).length (xs.take b.toNat)) ∧ (xs.take b.toNat).length ≤ c := by
  have hl : (xs.take b.toNat).length = b.toNat := by rw [List.length_take]; omega
  refine ⟨fun W => ?_, fun w h => Kd.C_take h (by omega), by rw [hl]; omega⟩
  have hel : P.elem t = e := by simp [Program.elem, ht]
  have hu : P.underlying t = some (.slice (P.elem t)) := by rw [hel]; exact ht
  have ha : (A.map fun x => x.add 0) = A := by cases A <;> simp [Addr.add]
  rw [run_slice_h W t A xs.length c hu .i64 b h0 (by omega), hel, hl]
  simp [sizeOf, typeInfo, hi, hsz, sliced, Result.andThen, ha]
/-- A literal's row, its elements of one cell each. -/
theorem C_lit (d : Kd α) (hsz : d.sz = 1) (W : World) (e : TypeId) (xs : List α) (vs : List Value) (hl : vs.length = xs.length) (hmax : xs.length ≤ 9223372036854775807)
    (hK : ∀ (j : Nat) (p : α) (u : Value), xs[j]? = some p → vs[j]? = some u → d.K W p [u]) : d.C (W.alloc (.cells vs.toArray e (0, 0))) (some ⟨W.heap.size, 0, none⟩) xs.length xs := by
  refine ⟨rfl, hmax, fun _ => ⟨_, rfl, fun j p hj => ?_⟩⟩
  have hjl : j < vs.length := by have := (List.getElem?_eq_some_iff.1 hj).1; omega
  have hu : vs[j]? = some vs[j] := List.getElem?_eq_getElem hjl
  refine ⟨[vs[j]], by rw [hsz]; rfl, d.K_below (below_alloc (Below.refl _ _) _) (hK j p _ hj hu), fun i u hi => ?_⟩
  obtain rfl : i = 0 := by
    have := (List.getElem?_eq_some_iff.1 hi).1
    simpa using this
  obtain rfl : vs[j] = u := by simpa using hi
  rw [hsz, Nat.mul_one, Nat.add_zero, add_plain]
  refine (blk_cell (blk_new W _) j).trans ?_
  simp [hu]
end
end Go.Proofs.Ytadafplbgophfaa.PA
end
section
/- tripartiteref06.Of: function 50, walked. -/
namespace Go.Proofs.Ytadafplbgophfaa.PA
open Go.RowKit Go.Proofs.YtadafplbgophfaaW.PrintWords Go.Proofs.YtadafplbgophfaaW.PrintLast Go.Proofs.YtadafplbgophfaaW.PrintMore
attribute [local go_sem] max2_int min2_int max_two min_two max_three min_three max_four min_four   -- for this text's walks alone
set_option linter.unusedVariables false
set_option linter.unusedSimpArgs false

set_option maxHeartbeats 40000000 in
set_option maxRecDepth 100000 in
theorem tripartiteref06_Of.calls (k : Nat) (a0 : Int) (a1 : Int) (a2 : Int) (A3 : Option Addr) (c3 : Nat) (l3 : List (S37)) (A4 : Option Addr) (c4 : Nat) (l4 : List (S37)) (r1 : List (S81)) (r2 : Bool) (w : World) (hr3 : Kd.C k37 w A3 l3.length l3) (hc3 : l3.length ≤ c3) (hr4 : Kd.C k37 w A4 l4.length l4) (hc4 : l4.length ≤ c4) (h : tripartiteref06_Of.f k a0 a1 a2 l3 l4 = some (r1, r2)) :
  Calls Try.prog 50 #[.int .i64 a0, .int .i64 a1, .int .i64 a2, .slice A3 l3.length c3, .slice A4 l4.length c4] w fun e w' => ∃ v0_ : Value, e = .returned (.tuple #[v0_, .bool r2]) ∧ Kd.R k81 81 w' w.heap.size (fun _ => True) v0_ r1 ∧ Below w.heap.size w w' := by
 have hu79 := Try.underlying79
 have hu81 := Try.underlying81
 have HR3 := Aside0.mk hr3
 have HC3 := Aside0.mk hc3
 clear hr3 hc3
 have HR4 := Aside0.mk hr4
 have HC4 := Aside0.mk hc4
 clear hr4 hc4
 have HB := Aside0.mk (Below.refl w.heap.size w)
 have H : (if a0 < 0 then (tripartiteref06_Of.j0 k a0 a1 a2 l3 l4 true) else (if a1 < 0 then (tripartiteref06_Of.j0 k a0 a1 a2 l3 l4 true) else (if a2 < 0 then (tripartiteref06_Of.j0 k a0 a1 a2 l3 l4 true) else ((tripartiteref06_rises.f k a0 a1 l3).bind fun t101 => (if t101 = true then ((tripartiteref06_rises.f k a0 a2 l4).bind fun t102 => (tripartiteref06_Of.j0 k a0 a1 a2 l3 l4 (!t102))) else (tripartiteref06_Of.j0 k a0 a1 a2 l3 l4 true)))))) = some (r1, r2) := h
 clear h
 have HC6 := Aside0.mk H
 clear H
 go_enter Try.func50, Try.ntmps50
 go_upto_region 1 with (fail)
 repeat (go_quiet (fail); go_upto_region 1 with (fail))
 go_cut [42] (fun v42 wc => ∃ (kq : Nat) (x42_5 : Bool), v42 = .bool x42_5 ∧ Aside0 (tripartiteref06_Of.j0 kq a0 a1 a2 l3 l4 x42_5 = some (r1, r2)) ∧ Aside0 (kq ≤ k) ∧ Aside0 (Below w.heap.size w wc))
 case first =>
  have H := HC6.out
  clear HC6
  by_cases c7 : a0 < 0
  ·rw [if_pos c7] at H
   have c7b0 : decide (a0 < 0) = true := decide_eq_true c7
   clear c7
   (first | rw [c7b0] | (simp only [i64_w, i32_w]; rw [c7b0]) | skip)
   have H' := Aside0.mk H
   clear H
   go_wp2
   repeat (go_quiet (fail); try go_wp2)
   go_meet
   case rel => exact ⟨_, (true), (by first | rfl | (simp; done) | (simp [*]; done)), H', ⟨by first | omega | exact Nat.le_refl _⟩, ⟨by repeat (first | (with_reducible first | exact HB.out | apply below_alloc | apply pw_below_drewN | apply below_drew1) | exact HB.out)⟩⟩
  ·rw [if_neg c7] at H
   have c7b0 : decide (a0 < 0) = false := decide_eq_false c7
   clear c7
   (first | rw [c7b0] | (simp only [i64_w, i32_w]; rw [c7b0]) | skip)
   by_cases c8 : a1 < 0
   ·rw [if_pos c8] at H
    have c8b0 : decide (a1 < 0) = true := decide_eq_true c8
    clear c8
    have H' := Aside0.mk H
    clear H
    go_wp2
    repeat (go_quiet (fail); try go_wp2)
    go_meet
    case rel => exact ⟨_, (true), (by first | rfl | (simp; done) | (simp [*]; done)), H', ⟨by first | omega | exact Nat.le_refl _⟩, ⟨by repeat (first | (with_reducible first | exact HB.out | apply below_alloc | apply pw_below_drewN | apply below_drew1) | exact HB.out)⟩⟩
   ·rw [if_neg c8] at H
    have c8b0 : decide (a1 < 0) = false := decide_eq_false c8
    clear c8
    by_cases c9 : a2 < 0
    ·rw [if_pos c9] at H
     have c9b0 : decide (a2 < 0) = true := decide_eq_true c9
     clear c9
     have H' := Aside0.mk H
     clear H
     go_wp2
     repeat (go_quiet (fail); try go_wp2)
     go_meet
     case rel => exact ⟨_, (true), (by first | rfl | (simp; done) | (simp [*]; done)), H', ⟨by first | omega | exact Nat.le_refl _⟩, ⟨by repeat (first | (with_reducible first | exact HB.out | apply below_alloc | apply pw_below_drewN | apply below_drew1) | exact HB.out)⟩⟩
    ·rw [if_neg c9] at H
     have c9b0 : decide (a2 < 0) = false := decide_eq_false c9
     clear c9
     replace H := Option.bind_eq_some_iff.mp H
     obtain ⟨t101, A100, H⟩ := H
     replace H : (if t101 = true then ((tripartiteref06_rises.f k a0 a2 l4).bind fun t102 => (tripartiteref06_Of.j0 k a0 a1 a2 l3 l4 (!t102))) else (tripartiteref06_Of.j0 k a0 a1 a2 l3 l4 true)) = some (r1, r2) := H
     have A10 := Aside0.mk A100
     clear A100
     by_cases c11 : t101 = true
     ·subst c11
      have H1 : ((tripartiteref06_rises.f k a0 a2 l4).bind fun t102 => (tripartiteref06_Of.j0 k a0 a1 a2 l3 l4 (!t102))) = some (r1, r2) := by rw [if_pos rfl] at H; exact H
      clear H
      have H := H1
      clear H1
      replace H := Option.bind_eq_some_iff.mp H
      obtain ⟨t102, A120, H⟩ := H
      replace H : (tripartiteref06_Of.j0 k a0 a1 a2 l3 l4 (!t102)) = some (r1, r2) := H
      have A12 := Aside0.mk A120
      clear A120
      have H' := Aside0.mk H
      clear H
      go_wp2_with (first | (go_at_call 94; (with_reducible refine (tripartiteref06_rises.calls k a0 a1 _ _ l3 true _ ?side1 ?side2 A10.out).mono ?_); (case side1 => repeat (first | exact (Kd.C_below HR3.out HB.out) | (with_reducible refine Kd.C_alloc ?_ _) | (with_reducible refine Kd.C_drewN ?_ _) | (with_reducible refine Kd.C_drew ?_))); (case side2 => exact HC3.out); rintro e w13 ⟨rfl, hb⟩; have n0_ := Aside0.mk (below_step (by repeat (first | (with_reducible first | exact HB.out | apply below_alloc | apply pw_below_drewN | apply below_drew1) | exact HB.out)) hb); clear HB; have HB := n0_; clear n0_; (try clear hb); (try clear hb2); (try clear hk); (try clear hi)) | (go_at_call 94; (with_reducible refine (tripartiteref06_rises.calls k a0 a2 _ _ l4 t102 _ ?side1 ?side2 A12.out).mono ?_); (case side1 => repeat (first | exact (Kd.C_below HR4.out HB.out) | (with_reducible refine Kd.C_alloc ?_ _) | (with_reducible refine Kd.C_drewN ?_ _) | (with_reducible refine Kd.C_drew ?_))); (case side2 => exact HC4.out); rintro e w14 ⟨rfl, hb⟩; have n0_ := Aside0.mk (below_step (by repeat (first | (with_reducible first | exact HB.out | apply below_alloc | apply pw_below_drewN | apply below_drew1) | exact HB.out)) hb); clear HB; have HB := n0_; clear n0_; (try clear hb); (try clear hb2); (try clear hk); (try clear hi)))
      repeat (go_quiet (first | (go_at_call 94; (with_reducible refine (tripartiteref06_rises.calls k a0 a1 _ _ l3 true _ ?side1 ?side2 A10.out).mono ?_); (case side1 => repeat (first | exact (Kd.C_below HR3.out HB.out) | (with_reducible refine Kd.C_alloc ?_ _) | (with_reducible refine Kd.C_drewN ?_ _) | (with_reducible refine Kd.C_drew ?_))); (case side2 => exact HC3.out); rintro e w13 ⟨rfl, hb⟩; have n0_ := Aside0.mk (below_step (by repeat (first | (with_reducible first | exact HB.out | apply below_alloc | apply pw_below_drewN | apply below_drew1) | exact HB.out)) hb); clear HB; have HB := n0_; clear n0_; (try clear hb); (try clear hb2); (try clear hk); (try clear hi)) | (go_at_call 94; (with_reducible refine (tripartiteref06_rises.calls k a0 a2 _ _ l4 t102 _ ?side1 ?side2 A12.out).mono ?_); (case side1 => repeat (first | exact (Kd.C_below HR4.out HB.out) | (with_reducible refine Kd.C_alloc ?_ _) | (with_reducible refine Kd.C_drewN ?_ _) | (with_reducible refine Kd.C_drew ?_))); (case side2 => exact HC4.out); rintro e w14 ⟨rfl, hb⟩; have n0_ := Aside0.mk (below_step (by repeat (first | (with_reducible first | exact HB.out | apply below_alloc | apply pw_below_drewN | apply below_drew1) | exact HB.out)) hb); clear HB; have HB := n0_; clear n0_; (try clear hb); (try clear hb2); (try clear hk); (try clear hi))); try go_wp2_with (first | (go_at_call 94; (with_reducible refine (tripartiteref06_rises.calls k a0 a1 _ _ l3 true _ ?side1 ?side2 A10.out).mono ?_); (case side1 => repeat (first | exact (Kd.C_below HR3.out HB.out) | (with_reducible refine Kd.C_alloc ?_ _) | (with_reducible refine Kd.C_drewN ?_ _) | (with_reducible refine Kd.C_drew ?_))); (case side2 => exact HC3.out); rintro e w13 ⟨rfl, hb⟩; have n0_ := Aside0.mk (below_step (by repeat (first | (with_reducible first | exact HB.out | apply below_alloc | apply pw_below_drewN | apply below_drew1) | exact HB.out)) hb); clear HB; have HB := n0_; clear n0_; (try clear hb); (try clear hb2); (try clear hk); (try clear hi)) | (go_at_call 94; (with_reducible refine (tripartiteref06_rises.calls k a0 a2 _ _ l4 t102 _ ?side1 ?side2 A12.out).mono ?_); (case side1 => repeat (first | exact (Kd.C_below HR4.out HB.out) | (with_reducible refine Kd.C_alloc ?_ _) | (with_reducible refine Kd.C_drewN ?_ _) | (with_reducible refine Kd.C_drew ?_))); (case side2 => exact HC4.out); rintro e w14 ⟨rfl, hb⟩; have n0_ := Aside0.mk (below_step (by repeat (first | (with_reducible first | exact HB.out | apply below_alloc | apply pw_below_drewN | apply below_drew1) | exact HB.out)) hb); clear HB; have HB := n0_; clear n0_; (try clear hb); (try clear hb2); (try clear hk); (try clear hi))))
      go_meet
      case rel => exact ⟨_, (!t102), (by first | rfl | (simp; done) | (simp [*]; done)), H', ⟨by first | omega | exact Nat.le_refl _⟩, ⟨by repeat (first | (with_reducible first | exact HB.out | apply below_alloc | apply pw_below_drewN | apply below_drew1) | exact HB.out)⟩⟩
     ·replace c11 := Bool.eq_false_iff.mpr c11
      subst c11
      have H1 : (tripartiteref06_Of.j0 k a0 a1 a2 l3 l4 true) = some (r1, r2) := by rw [if_neg (show ¬ (false = true) by decide)] at H; exact H
      clear H
      have H := H1
      clear H1
      have H' := Aside0.mk H
      clear H
      go_wp2_with (first | (go_at_call 94; (with_reducible refine (tripartiteref06_rises.calls k a0 a1 _ _ l3 false _ ?side1 ?side2 A10.out).mono ?_); (case side1 => repeat (first | exact (Kd.C_below HR3.out HB.out) | (with_reducible refine Kd.C_alloc ?_ _) | (with_reducible refine Kd.C_drewN ?_ _) | (with_reducible refine Kd.C_drew ?_))); (case side2 => exact HC3.out); rintro e w15 ⟨rfl, hb⟩; have n0_ := Aside0.mk (below_step (by repeat (first | (with_reducible first | exact HB.out | apply below_alloc | apply pw_below_drewN | apply below_drew1) | exact HB.out)) hb); clear HB; have HB := n0_; clear n0_; (try clear hb); (try clear hb2); (try clear hk); (try clear hi)))
      repeat (go_quiet (first | (go_at_call 94; (with_reducible refine (tripartiteref06_rises.calls k a0 a1 _ _ l3 false _ ?side1 ?side2 A10.out).mono ?_); (case side1 => repeat (first | exact (Kd.C_below HR3.out HB.out) | (with_reducible refine Kd.C_alloc ?_ _) | (with_reducible refine Kd.C_drewN ?_ _) | (with_reducible refine Kd.C_drew ?_))); (case side2 => exact HC3.out); rintro e w15 ⟨rfl, hb⟩; have n0_ := Aside0.mk (below_step (by repeat (first | (with_reducible first | exact HB.out | apply below_alloc | apply pw_below_drewN | apply below_drew1) | exact HB.out)) hb); clear HB; have HB := n0_; clear n0_; (try clear hb); (try clear hb2); (try clear hk); (try clear hi))); try go_wp2_with (first | (go_at_call 94; (with_reducible refine (tripartiteref06_rises.calls k a0 a1 _ _ l3 false _ ?side1 ?side2 A10.out).mono ?_); (case side1 => repeat (first | exact (Kd.C_below HR3.out HB.out) | (with_reducible refine Kd.C_alloc ?_ _) | (with_reducible refine Kd.C_drewN ?_ _) | (with_reducible refine Kd.C_drew ?_))); (case side2 => exact HC3.out); rintro e w15 ⟨rfl, hb⟩; have n0_ := Aside0.mk (below_step (by repeat (first | (with_reducible first | exact HB.out | apply below_alloc | apply pw_below_drewN | apply below_drew1) | exact HB.out)) hb); clear HB; have HB := n0_; clear n0_; (try clear hb); (try clear hb2); (try clear hk); (try clear hi))))
      go_meet
      case rel => exact ⟨_, (true), (by first | rfl | (simp; done) | (simp [*]; done)), H', ⟨by first | omega | exact Nat.le_refl _⟩, ⟨by repeat (first | (with_reducible first | exact HB.out | apply below_alloc | apply pw_below_drewN | apply below_drew1) | exact HB.out)⟩⟩
 case rest =>
  clear HC6
  try clear c1
  try clear p2
  try clear c3
  try clear c4
  try clear c5
  try clear c7
  try clear c7b0
  try clear c8
  try clear c8b0
  try clear c9
  try clear c9b0
  try clear c11
  obtain ⟨kq, x42_5, rfl, HA, HJ5, HB⟩ := hcut
  cases kq with
  | zero => exact absurd HA.out (by simp [tripartiteref06_Of.j0])
  | succ kj5 =>
   have H := HA.out
   clear HA
   simp only [tripartiteref06_Of.j0] at H
   by_cases c16 : x42_5 = true
   ·subst c16
    have H1 : (some (([] : List (S81)), false)) = some (r1, r2) := by rw [if_pos rfl] at H; exact H
    clear H
    have H := H1
    clear H1
    simp only [Option.some.injEq, Prod.mk.injEq] at H
    obtain ⟨rfl, rfl⟩ := H
    go_wp2
    repeat (go_quiet (fail); try go_wp2)
    go_ret2
    exact ⟨_, by first | rfl | (simp [errW_none, errW_some] <;> rfl) | (simp [*, errW_none, errW_some] <;> rfl), by first | exact Kd.R_nil _ _ _ _ _ | exact Kd.N_nil _ _ _ _ _ | exact Kd.V_nil _ _ _ _ _ | exact Kd.Q_nil _ _ _ _ _ | exact Kd.S_nil _ _ _ _ _, by repeat (first | (with_reducible first | exact HB.out | apply below_alloc | apply pw_below_drewN | apply below_drew1) | exact HB.out)⟩
   ·replace c16 := Bool.eq_false_iff.mpr c16
    subst c16
    have H1 : (tripartiteref06_Of.l0 kj5 a0 a1 a2 l3 l4 ([] : List (S81)) 0 0 0) = some (r1, r2) := by rw [if_neg (show ¬ (false = true) by decide)] at H; exact H
    clear H
    have H := H1
    clear H1
    have H' := Aside0.mk H
    clear H
    go_wp2
    repeat (go_quiet (fail); try go_wp2)
    go_loopg [12, 13, 14, 15] kj5 (fun kq v12 v13 v14 v15 w' => ∃ (x12_2 : List (S81)) (x13_2 : Int) (x14_2 : Int) (x15_2 : Int), v13 = .int .i64 x13_2 ∧ v14 = .int .i64 x14_2 ∧ v15 = .int .i64 x15_2 ∧ Aside0 (tripartiteref06_Of.l0 kq a0 a1 a2 l3 l4 x12_2 x13_2 x14_2 x15_2 = some (r1, r2)) ∧ Aside0 (kq ≤ kj5) ∧ Aside0 (Kd.R k81 81 w' w.heap.size (fun _ => True) v12 x12_2) ∧ Aside0 (Below w.heap.size w w'))
    case atStart => exact ⟨(([] : List (S81))), (0), (0), (0), (by first | rfl | (simp; done) | (simp [*]; done)), (by first | rfl | (simp; done) | (simp [*]; done)), (by first | rfl | (simp; done) | (simp [*]; done)), H', ⟨Nat.le_refl _⟩, ⟨by first | exact Kd.R_nil _ _ _ _ _ | exact Kd.N_nil _ _ _ _ _ | exact Kd.V_nil _ _ _ _ _ | exact Kd.Q_nil _ _ _ _ _ | exact Kd.S_nil _ _ _ _ _⟩, ⟨by repeat (first | (with_reducible first | exact HB.out | apply below_alloc | apply pw_below_drewN | apply below_drew1) | exact HB.out)⟩⟩
    case round =>
     clear H'
     try clear c1
     try clear p2
     try clear c3
     try clear c4
     try clear c5
     try clear c7
     try clear c7b0
     try clear c8
     try clear c8b0
     try clear c9
     try clear c9b0
     try clear c11
     try clear c16
     try clear p2
     obtain ⟨x12_2, x13_2, x14_2, x15_2, rfl, rfl, rfl, HA, HK2, HO_12, HB⟩ := hrel
     cases gk with
     | zero => exact absurd HA.out (by simp [tripartiteref06_Of.l0])
     | succ k2 =>
      have H := HA.out
      clear HA
      simp only [tripartiteref06_Of.l0] at H
      have HC17 := Aside0.mk H
      clear H
      go_upto_region 5 with (fail)
      repeat (go_quiet (fail); go_upto_region 5 with (fail))
      go_cut [55] (fun v55 wc => ∃ (kq : Nat) (x55_16 : Bool), v55 = .bool x55_16 ∧ Aside0 (tripartiteref06_Of.j2 kq a0 a1 a2 l3 l4 x12_2 x13_2 x14_2 x15_2 x55_16 = some (r1, r2)) ∧ Aside0 (kq ≤ k2) ∧ Aside0 (Kd.R k81 81 wc w.heap.size (fun _ => True) u12 x12_2) ∧ Aside0 (Below w.heap.size w wc))
      case first =>
       have H := HC17.out
       clear HC17
       by_cases c18 : x13_2 < a0
       ·rw [if_pos c18] at H
        have c18b0 : decide (x13_2 < a0) = true := decide_eq_true c18
        clear c18
        (first | rw [c18b0] | (simp only [i64_w, i32_w]; rw [c18b0]) | skip)
        have H' := Aside0.mk H
        clear H
        go_wp2
        repeat (go_quiet (fail); try go_wp2)
        go_meet
        case rel => exact ⟨_, (true), (by first | rfl | (simp; done) | (simp [*]; done)), H', ⟨by have := HJ5.out; have := HK2.out; first | omega | exact Nat.le_refl _⟩, ⟨by (with_reducible repeat (first | apply Kd.R_alloc | apply Kd.R_drewN | apply Kd.R_drew)); exact HO_12.out⟩, ⟨by repeat (first | (with_reducible first | exact HB.out | apply below_alloc | apply pw_below_drewN | apply below_drew1) | exact HB.out)⟩⟩
       ·rw [if_neg c18] at H
        have c18b0 : decide (x13_2 < a0) = false := decide_eq_false c18
        clear c18
        (first | rw [c18b0] | (simp only [i64_w, i32_w]; rw [c18b0]) | skip)
        by_cases c19 : x14_2 < a1
        ·rw [if_pos c19] at H
         have c19b0 : decide (x14_2 < a1) = true := decide_eq_true c19
         clear c19
         have H' := Aside0.mk H
         clear H
         go_wp2
         repeat (go_quiet (fail); try go_wp2)
         go_meet
         case rel => exact ⟨_, (true), (by first | rfl | (simp; done) | (simp [*]; done)), H', ⟨by have := HJ5.out; have := HK2.out; first | omega | exact Nat.le_refl _⟩, ⟨by (with_reducible repeat (first | apply Kd.R_alloc | apply Kd.R_drewN | apply Kd.R_drew)); exact HO_12.out⟩, ⟨by repeat (first | (with_reducible first | exact HB.out | apply below_alloc | apply pw_below_drewN | apply below_drew1) | exact HB.out)⟩⟩
        ·rw [if_neg c19] at H
         have c19b0 : decide (x14_2 < a1) = false := decide_eq_false c19
         clear c19
         have H' := Aside0.mk H
         clear H
         go_wp2
         repeat (go_quiet (fail); try go_wp2)
         go_meet
         case rel => exact ⟨_, (decide (x15_2 < a2)), (by first | rfl | (simp; done) | (simp [*]; done)), H', ⟨by have := HJ5.out; have := HK2.out; first | omega | exact Nat.le_refl _⟩, ⟨by (with_reducible repeat (first | apply Kd.R_alloc | apply Kd.R_drewN | apply Kd.R_drew)); exact HO_12.out⟩, ⟨by repeat (first | (with_reducible first | exact HB.out | apply below_alloc | apply pw_below_drewN | apply below_drew1) | exact HB.out)⟩⟩
      case rest =>
       clear HC17
       try clear c1
       try clear p2
       try clear c3
       try clear c4
       try clear c5
       try clear c7
       try clear c7b0
       try clear c8
       try clear c8b0
       try clear c9
       try clear c9b0
       try clear c11
       try clear c16
       try clear c18
       try clear c18b0
       try clear c19
       try clear c19b0
       try clear p2
       obtain ⟨kq, x55_16, rfl, HA, HJ16, HO_12, HB⟩ := hcut
       cases kq with
       | zero => exact absurd HA.out (by simp [tripartiteref06_Of.j2])
       | succ kj16 =>
        have H := HA.out
        clear HA
        simp only [tripartiteref06_Of.j2] at H
        by_cases c20 : x55_16 = true
        ·subst c20
         have H1 : (tripartiteref06_Of.l1 kj16 a0 a1 a2 l3 l4 x12_2 x13_2 x14_2 x15_2 0) = some (r1, r2) := by rw [if_pos rfl] at H; exact H
         clear H
         have H := H1
         clear H1
         have HC21 := Aside0.mk H
         clear H
         go_upto_block 2 with (fail)
         repeat (go_quiet (fail); go_upto_block 2 with (fail))
         go_cut [16] (fun v16 wc => ∃ (kq : Nat) (x16_20 : Int), v16 = .int .i64 x16_20 ∧ Aside0 (tripartiteref06_Of.j4 kq a0 a1 a2 l3 l4 x12_2 x13_2 x14_2 x15_2 x16_20 = some (r1, r2)) ∧ Aside0 (kq ≤ kj16) ∧ Aside0 (Kd.R k81 81 wc w.heap.size (fun _ => True) u12 x12_2) ∧ Aside0 (Below w.heap.size w wc))
         case first =>
          have H := HC21.out
          clear HC21
          have H' := Aside0.mk H
          clear H
          go_wp2
          repeat (go_quiet (fail); try go_wp2)
          go_loopg [16] kj16 (fun kq v16 w' => ∃ (x16_4 : Int), v16 = .int .i64 x16_4 ∧ Aside0 (tripartiteref06_Of.l1 kq a0 a1 a2 l3 l4 x12_2 x13_2 x14_2 x15_2 x16_4 = some (r1, r2)) ∧ Aside0 (kq ≤ kj16) ∧ Aside0 (Kd.R k81 81 w' w.heap.size (fun _ => True) u12 x12_2) ∧ Aside0 (Below w.heap.size w w'))
          case atStart => exact ⟨(0), (by first | rfl | (simp; done) | (simp [*]; done)), H', ⟨Nat.le_refl _⟩, ⟨by (with_reducible repeat (first | apply Kd.R_alloc | apply Kd.R_drewN | apply Kd.R_drew)); exact HO_12.out⟩, ⟨by repeat (first | (with_reducible first | exact HB.out | apply below_alloc | apply pw_below_drewN | apply below_drew1) | exact HB.out)⟩⟩
          case round =>
           clear H'
           try clear c1
           try clear c2
           try clear p2
           try clear c3
           try clear c4
           try clear c5
           try clear c7
           try clear c7b0
           try clear c8
           try clear c8b0
           try clear c9
           try clear c9b0
           try clear c11
           try clear c16
           try clear c18
           try clear c18b0
           try clear c19
           try clear c19b0
           try clear c20
           try clear p2
           obtain ⟨x16_4, rfl, HA, HK4, HO_12, HB⟩ := hrel
           cases gk with
           | zero => exact absurd HA.out (by simp [tripartiteref06_Of.l1])
           | succ k4 =>
            have H := HA.out
            clear HA
            simp only [tripartiteref06_Of.l1] at H
            by_cases c22 : (wrap64 (x13_2 + x16_4)) < a0
            ·rw [if_pos c22] at H
             have c22b0 : decide ((wrap64 (x13_2 + x16_4)) < a0) = true := decide_eq_true c22
             clear c22
             (first | rw [c22b0] | (simp only [i64_w, i32_w]; rw [c22b0]) | skip)
             replace H := Option.bind_eq_some_iff.mp H
             obtain ⟨t103, A230, H⟩ := H
             replace H : (if t103 = (wrap64 (x14_2 + x16_4)) then ((tripartiteref06_at.f k4 l4 (wrap64 (x13_2 + x16_4))).bind fun t104 => (if t104 = (wrap64 (x15_2 + x16_4)) then (tripartiteref06_Of.l1 k4 a0 a1 a2 l3 l4 x12_2 x13_2 x14_2 x15_2 (wrap64 (x16_4 + 1))) else (tripartiteref06_Of.j4 k4 a0 a1 a2 l3 l4 x12_2 x13_2 x14_2 x15_2 x16_4))) else (tripartiteref06_Of.j4 k4 a0 a1 a2 l3 l4 x12_2 x13_2 x14_2 x15_2 x16_4)) = some (r1, r2) := H
             have A23 := Aside0.mk A230
             clear A230
             by_cases c24 : t103 = (wrap64 (x14_2 + x16_4))
             ·rw [if_pos c24] at H
              have c24b0 : (t103 == (wrap64 (x14_2 + x16_4))) = true := beq_iff_eq.mpr c24
              have c24b1 : (t103 != (wrap64 (x14_2 + x16_4))) = false := bne_eq_false_iff_eq.mpr c24
              clear c24
              replace H := Option.bind_eq_some_iff.mp H
              obtain ⟨t104, A250, H⟩ := H
              replace H : (if t104 = (wrap64 (x15_2 + x16_4)) then (tripartiteref06_Of.l1 k4 a0 a1 a2 l3 l4 x12_2 x13_2 x14_2 x15_2 (wrap64 (x16_4 + 1))) else (tripartiteref06_Of.j4 k4 a0 a1 a2 l3 l4 x12_2 x13_2 x14_2 x15_2 x16_4)) = some (r1, r2) := H
              have A25 := Aside0.mk A250
              clear A250
              by_cases c26 : t104 = (wrap64 (x15_2 + x16_4))
              ·rw [if_pos c26] at H
               have c26b0 : (t104 == (wrap64 (x15_2 + x16_4))) = true := beq_iff_eq.mpr c26
               have c26b1 : (t104 != (wrap64 (x15_2 + x16_4))) = false := bne_eq_false_iff_eq.mpr c26
               clear c26
               have H' := Aside0.mk H
               clear H
               go_wp2_with (first | (go_at_call 95; (with_reducible refine (tripartiteref06_at.calls k4 _ _ l3 (wrap64 (x13_2 + x16_4)) t103 _ ?side1 ?side2 A23.out).mono ?_); (case side1 => repeat (first | exact (Kd.C_below HR3.out HB.out) | (with_reducible refine Kd.C_alloc ?_ _) | (with_reducible refine Kd.C_drewN ?_ _) | (with_reducible refine Kd.C_drew ?_))); (case side2 => exact HC3.out); rintro e w' ⟨rfl, ⟨nd, rfl⟩⟩; (try first | exact ⟨rfl, _, World.drewN_drewN _ _ _⟩ | exact ⟨rfl, _, Eq.trans (World.drewN_drewN _ _ _) (congrArg (World.drewN _) (Nat.add_assoc _ _ _))⟩)) | (go_at_call 95; (with_reducible refine (tripartiteref06_at.calls k4 _ _ l4 (wrap64 (x13_2 + x16_4)) t104 _ ?side1 ?side2 A25.out).mono ?_); (case side1 => repeat (first | exact (Kd.C_below HR4.out (by repeat (first | (with_reducible first | exact HB.out | apply below_alloc | apply pw_below_drewN | apply below_drew1) | exact HB.out))) | (with_reducible refine Kd.C_alloc ?_ _) | (with_reducible refine Kd.C_drewN ?_ _) | (with_reducible refine Kd.C_drew ?_))); (case side2 => exact HC4.out); rintro e w' ⟨rfl, ⟨nd, rfl⟩⟩; (try first | exact ⟨rfl, _, World.drewN_drewN _ _ _⟩ | exact ⟨rfl, _, Eq.trans (World.drewN_drewN _ _ _) (congrArg (World.drewN _) (Nat.add_assoc _ _ _))⟩)))
               repeat (go_quiet (first | (go_at_call 95; (with_reducible refine (tripartiteref06_at.calls k4 _ _ l3 (wrap64 (x13_2 + x16_4)) t103 _ ?side1 ?side2 A23.out).mono ?_); (case side1 => repeat (first | exact (Kd.C_below HR3.out HB.out) | (with_reducible refine Kd.C_alloc ?_ _) | (with_reducible refine Kd.C_drewN ?_ _) | (with_reducible refine Kd.C_drew ?_))); (case side2 => exact HC3.out); rintro e w' ⟨rfl, ⟨nd, rfl⟩⟩; (try first | exact ⟨rfl, _, World.drewN_drewN _ _ _⟩ | exact ⟨rfl, _, Eq.trans (World.drewN_drewN _ _ _) (congrArg (World.drewN _) (Nat.add_assoc _ _ _))⟩)) | (go_at_call 95; (with_reducible refine (tripartiteref06_at.calls k4 _ _ l4 (wrap64 (x13_2 + x16_4)) t104 _ ?side1 ?side2 A25.out).mono ?_); (case side1 => repeat (first | exact (Kd.C_below HR4.out (by repeat (first | (with_reducible first | exact HB.out | apply below_alloc | apply pw_below_drewN | apply below_drew1) | exact HB.out))) | (with_reducible refine Kd.C_alloc ?_ _) | (with_reducible refine Kd.C_drewN ?_ _) | (with_reducible refine Kd.C_drew ?_))); (case side2 => exact HC4.out); rintro e w' ⟨rfl, ⟨nd, rfl⟩⟩; (try first | exact ⟨rfl, _, World.drewN_drewN _ _ _⟩ | exact ⟨rfl, _, Eq.trans (World.drewN_drewN _ _ _) (congrArg (World.drewN _) (Nat.add_assoc _ _ _))⟩))); try go_wp2_with (first | (go_at_call 95; (with_reducible refine (tripartiteref06_at.calls k4 _ _ l3 (wrap64 (x13_2 + x16_4)) t103 _ ?side1 ?side2 A23.out).mono ?_); (case side1 => repeat (first | exact (Kd.C_below HR3.out HB.out) | (with_reducible refine Kd.C_alloc ?_ _) | (with_reducible refine Kd.C_drewN ?_ _) | (with_reducible refine Kd.C_drew ?_))); (case side2 => exact HC3.out); rintro e w' ⟨rfl, ⟨nd, rfl⟩⟩; (try first | exact ⟨rfl, _, World.drewN_drewN _ _ _⟩ | exact ⟨rfl, _, Eq.trans (World.drewN_drewN _ _ _) (congrArg (World.drewN _) (Nat.add_assoc _ _ _))⟩)) | (go_at_call 95; (with_reducible refine (tripartiteref06_at.calls k4 _ _ l4 (wrap64 (x13_2 + x16_4)) t104 _ ?side1 ?side2 A25.out).mono ?_); (case side1 => repeat (first | exact (Kd.C_below HR4.out (by repeat (first | (with_reducible first | exact HB.out | apply below_alloc | apply pw_below_drewN | apply below_drew1) | exact HB.out))) | (with_reducible refine Kd.C_alloc ?_ _) | (with_reducible refine Kd.C_drewN ?_ _) | (with_reducible refine Kd.C_drew ?_))); (case side2 => exact HC4.out); rintro e w' ⟨rfl, ⟨nd, rfl⟩⟩; (try first | exact ⟨rfl, _, World.drewN_drewN _ _ _⟩ | exact ⟨rfl, _, Eq.trans (World.drewN_drewN _ _ _) (congrArg (World.drewN _) (Nat.add_assoc _ _ _))⟩))))
               go_roundg k4
               case measure => have := HJ5.out; have := HK2.out; have := HJ16.out; have := HK4.out; omega
               case rel => exact ⟨(wrap64 (x16_4 + 1)), (by first | rfl | (simp; done) | (simp [*]; done)), H', ⟨by have := HJ5.out; have := HK2.out; have := HJ16.out; have := HK4.out; omega⟩, ⟨by (with_reducible repeat (first | apply Kd.R_alloc | apply Kd.R_drewN | apply Kd.R_drew)); exact HO_12.out⟩, ⟨by repeat (first | (with_reducible first | exact HB.out | apply below_alloc | apply pw_below_drewN | apply below_drew1) | exact HB.out)⟩⟩
              ·rw [if_neg c26] at H
               have c26b0 : (t104 == (wrap64 (x15_2 + x16_4))) = false := beq_eq_false_iff_ne.mpr c26
               have c26b1 : (t104 != (wrap64 (x15_2 + x16_4))) = true := bne_iff_ne.mpr c26
               have H' := Aside0.mk H
               clear H
               go_wp2_with (first | (go_at_call 95; (with_reducible refine (tripartiteref06_at.calls k4 _ _ l3 (wrap64 (x13_2 + x16_4)) t103 _ ?side1 ?side2 A23.out).mono ?_); (case side1 => repeat (first | exact (Kd.C_below HR3.out HB.out) | (with_reducible refine Kd.C_alloc ?_ _) | (with_reducible refine Kd.C_drewN ?_ _) | (with_reducible refine Kd.C_drew ?_))); (case side2 => exact HC3.out); rintro e w' ⟨rfl, ⟨nd, rfl⟩⟩; (try first | exact ⟨rfl, _, World.drewN_drewN _ _ _⟩ | exact ⟨rfl, _, Eq.trans (World.drewN_drewN _ _ _) (congrArg (World.drewN _) (Nat.add_assoc _ _ _))⟩)) | (go_at_call 95; (with_reducible refine (tripartiteref06_at.calls k4 _ _ l4 (wrap64 (x13_2 + x16_4)) t104 _ ?side1 ?side2 A25.out).mono ?_); (case side1 => repeat (first | exact (Kd.C_below HR4.out (by repeat (first | (with_reducible first | exact HB.out | apply below_alloc | apply pw_below_drewN | apply below_drew1) | exact HB.out))) | (with_reducible refine Kd.C_alloc ?_ _) | (with_reducible refine Kd.C_drewN ?_ _) | (with_reducible refine Kd.C_drew ?_))); (case side2 => exact HC4.out); rintro e w' ⟨rfl, ⟨nd, rfl⟩⟩; (try first | exact ⟨rfl, _, World.drewN_drewN _ _ _⟩ | exact ⟨rfl, _, Eq.trans (World.drewN_drewN _ _ _) (congrArg (World.drewN _) (Nat.add_assoc _ _ _))⟩)))
               repeat (go_quiet (first | (go_at_call 95; (with_reducible refine (tripartiteref06_at.calls k4 _ _ l3 (wrap64 (x13_2 + x16_4)) t103 _ ?side1 ?side2 A23.out).mono ?_); (case side1 => repeat (first | exact (Kd.C_below HR3.out HB.out) | (with_reducible refine Kd.C_alloc ?_ _) | (with_reducible refine Kd.C_drewN ?_ _) | (with_reducible refine Kd.C_drew ?_))); (case side2 => exact HC3.out); rintro e w' ⟨rfl, ⟨nd, rfl⟩⟩; (try first | exact ⟨rfl, _, World.drewN_drewN _ _ _⟩ | exact ⟨rfl, _, Eq.trans (World.drewN_drewN _ _ _) (congrArg (World.drewN _) (Nat.add_assoc _ _ _))⟩)) | (go_at_call 95; (with_reducible refine (tripartiteref06_at.calls k4 _ _ l4 (wrap64 (x13_2 + x16_4)) t104 _ ?side1 ?side2 A25.out).mono ?_); (case side1 => repeat (first | exact (Kd.C_below HR4.out (by repeat (first | (with_reducible first | exact HB.out | apply below_alloc | apply pw_below_drewN | apply below_drew1) | exact HB.out))) | (with_reducible refine Kd.C_alloc ?_ _) | (with_reducible refine Kd.C_drewN ?_ _) | (with_reducible refine Kd.C_drew ?_))); (case side2 => exact HC4.out); rintro e w' ⟨rfl, ⟨nd, rfl⟩⟩; (try first | exact ⟨rfl, _, World.drewN_drewN _ _ _⟩ | exact ⟨rfl, _, Eq.trans (World.drewN_drewN _ _ _) (congrArg (World.drewN _) (Nat.add_assoc _ _ _))⟩))); try go_wp2_with (first | (go_at_call 95; (with_reducible refine (tripartiteref06_at.calls k4 _ _ l3 (wrap64 (x13_2 + x16_4)) t103 _ ?side1 ?side2 A23.out).mono ?_); (case side1 => repeat (first | exact (Kd.C_below HR3.out HB.out) | (with_reducible refine Kd.C_alloc ?_ _) | (with_reducible refine Kd.C_drewN ?_ _) | (with_reducible refine Kd.C_drew ?_))); (case side2 => exact HC3.out); rintro e w' ⟨rfl, ⟨nd, rfl⟩⟩; (try first | exact ⟨rfl, _, World.drewN_drewN _ _ _⟩ | exact ⟨rfl, _, Eq.trans (World.drewN_drewN _ _ _) (congrArg (World.drewN _) (Nat.add_assoc _ _ _))⟩)) | (go_at_call 95; (with_reducible refine (tripartiteref06_at.calls k4 _ _ l4 (wrap64 (x13_2 + x16_4)) t104 _ ?side1 ?side2 A25.out).mono ?_); (case side1 => repeat (first | exact (Kd.C_below HR4.out (by repeat (first | (with_reducible first | exact HB.out | apply below_alloc | apply pw_below_drewN | apply below_drew1) | exact HB.out))) | (with_reducible refine Kd.C_alloc ?_ _) | (with_reducible refine Kd.C_drewN ?_ _) | (with_reducible refine Kd.C_drew ?_))); (case side2 => exact HC4.out); rintro e w' ⟨rfl, ⟨nd, rfl⟩⟩; (try first | exact ⟨rfl, _, World.drewN_drewN _ _ _⟩ | exact ⟨rfl, _, Eq.trans (World.drewN_drewN _ _ _) (congrArg (World.drewN _) (Nat.add_assoc _ _ _))⟩))))
               go_meet
               case rel => exact ⟨_, (x16_4), (by first | rfl | (simp; done) | (simp [*]; done)), H', ⟨by have := HJ5.out; have := HK2.out; have := HJ16.out; have := HK4.out; first | omega | exact Nat.le_refl _⟩, ⟨by (with_reducible repeat (first | apply Kd.R_alloc | apply Kd.R_drewN | apply Kd.R_drew)); exact HO_12.out⟩, ⟨by repeat (first | (with_reducible first | exact HB.out | apply below_alloc | apply pw_below_drewN | apply below_drew1) | exact HB.out)⟩⟩
             ·rw [if_neg c24] at H
              have c24b0 : (t103 == (wrap64 (x14_2 + x16_4))) = false := beq_eq_false_iff_ne.mpr c24
              have c24b1 : (t103 != (wrap64 (x14_2 + x16_4))) = true := bne_iff_ne.mpr c24
              have H' := Aside0.mk H
              clear H
              go_wp2_with (first | (go_at_call 95; (with_reducible refine (tripartiteref06_at.calls k4 _ _ l3 (wrap64 (x13_2 + x16_4)) t103 _ ?side1 ?side2 A23.out).mono ?_); (case side1 => repeat (first | exact (Kd.C_below HR3.out HB.out) | (with_reducible refine Kd.C_alloc ?_ _) | (with_reducible refine Kd.C_drewN ?_ _) | (with_reducible refine Kd.C_drew ?_))); (case side2 => exact HC3.out); rintro e w' ⟨rfl, ⟨nd, rfl⟩⟩; (try first | exact ⟨rfl, _, World.drewN_drewN _ _ _⟩ | exact ⟨rfl, _, Eq.trans (World.drewN_drewN _ _ _) (congrArg (World.drewN _) (Nat.add_assoc _ _ _))⟩)))
              repeat (go_quiet (first | (go_at_call 95; (with_reducible refine (tripartiteref06_at.calls k4 _ _ l3 (wrap64 (x13_2 + x16_4)) t103 _ ?side1 ?side2 A23.out).mono ?_); (case side1 => repeat (first | exact (Kd.C_below HR3.out HB.out) | (with_reducible refine Kd.C_alloc ?_ _) | (with_reducible refine Kd.C_drewN ?_ _) | (with_reducible refine Kd.C_drew ?_))); (case side2 => exact HC3.out); rintro e w' ⟨rfl, ⟨nd, rfl⟩⟩; (try first | exact ⟨rfl, _, World.drewN_drewN _ _ _⟩ | exact ⟨rfl, _, Eq.trans (World.drewN_drewN _ _ _) (congrArg (World.drewN _) (Nat.add_assoc _ _ _))⟩))); try go_wp2_with (first | (go_at_call 95; (with_reducible refine (tripartiteref06_at.calls k4 _ _ l3 (wrap64 (x13_2 + x16_4)) t103 _ ?side1 ?side2 A23.out).mono ?_); (case side1 => repeat (first | exact (Kd.C_below HR3.out HB.out) | (with_reducible refine Kd.C_alloc ?_ _) | (with_reducible refine Kd.C_drewN ?_ _) | (with_reducible refine Kd.C_drew ?_))); (case side2 => exact HC3.out); rintro e w' ⟨rfl, ⟨nd, rfl⟩⟩; (try first | exact ⟨rfl, _, World.drewN_drewN _ _ _⟩ | exact ⟨rfl, _, Eq.trans (World.drewN_drewN _ _ _) (congrArg (World.drewN _) (Nat.add_assoc _ _ _))⟩))))
              go_meet
              case rel => exact ⟨_, (x16_4), (by first | rfl | (simp; done) | (simp [*]; done)), H', ⟨by have := HJ5.out; have := HK2.out; have := HJ16.out; have := HK4.out; first | omega | exact Nat.le_refl _⟩, ⟨by (with_reducible repeat (first | apply Kd.R_alloc | apply Kd.R_drewN | apply Kd.R_drew)); exact HO_12.out⟩, ⟨by repeat (first | (with_reducible first | exact HB.out | apply below_alloc | apply pw_below_drewN | apply below_drew1) | exact HB.out)⟩⟩
            ·rw [if_neg c22] at H
             have c22b0 : decide ((wrap64 (x13_2 + x16_4)) < a0) = false := decide_eq_false c22
             clear c22
             (first | rw [c22b0] | (simp only [i64_w, i32_w]; rw [c22b0]) | skip)
             have H' := Aside0.mk H
             clear H
             go_wp2
             repeat (go_quiet (fail); try go_wp2)
             go_meet
             case rel => exact ⟨_, (x16_4), (by first | rfl | (simp; done) | (simp [*]; done)), H', ⟨by have := HJ5.out; have := HK2.out; have := HJ16.out; have := HK4.out; first | omega | exact Nat.le_refl _⟩, ⟨by (with_reducible repeat (first | apply Kd.R_alloc | apply Kd.R_drewN | apply Kd.R_drew)); exact HO_12.out⟩, ⟨by repeat (first | (with_reducible first | exact HB.out | apply below_alloc | apply pw_below_drewN | apply below_drew1) | exact HB.out)⟩⟩
         case rest =>
          clear HC21
          try clear c1
          try clear c2
          try clear p2
          try clear c3
          try clear c4
          try clear c5
          try clear p6
          try clear c7
          try clear c7b0
          try clear c8
          try clear c8b0
          try clear c9
          try clear c9b0
          try clear c11
          try clear c16
          try clear c18
          try clear c18b0
          try clear c19
          try clear c19b0
          try clear c20
          try clear c22
          try clear c22b0
          try clear c24
          try clear c24b0
          try clear c24b1
          try clear c26
          try clear c26b0
          try clear c26b1
          try clear p2
          obtain ⟨kq, x16_20, rfl, HA, HJ20, HO_12, HB⟩ := hcut
          cases kq with
          | zero => exact absurd HA.out (by simp [tripartiteref06_Of.j4])
          | succ kj20 =>
           have H := HA.out
           clear HA
           simp only [tripartiteref06_Of.j4] at H
           by_cases c27 : x16_20 = 0
           ·rw [if_pos c27] at H
            have c27b0 : (x16_20 == 0) = true := beq_iff_eq.mpr c27
            have c27b1 : (x16_20 != 0) = false := bne_eq_false_iff_eq.mpr c27
            clear c27
            have HC28 := Aside0.mk H
            clear H
            go_upto_block 4 with (first | ((with_reducible refine gate_dst (N := 17) rfl ?_); refine box_event ?hg (N := 17) ?hd (cs := #[.bool false, .int .i64 0, .int .i64 0, .int .i64 0, .int .i64 0, .int .i64 0, .int .i64 0]) (t := 81) ?hr ?_; (case hd => rfl); (case hg => rfl); (case hr => first | (go_simp; done) | (go_simp; rfl)); intro gb105 hg w29 hbox hb; have n0_ := Aside0.mk (Kd.R_below (Kd.R_elderB (by (with_reducible repeat (first | apply Kd.R_alloc | apply Kd.R_drewN | apply Kd.R_drew)); exact HO_12.out) gb105 (Nat.le_of_eq hg.symm)) hb); have n1_ := Aside0.mk (below_step (by repeat (first | (with_reducible first | exact HB.out | apply below_alloc | apply pw_below_drewN | apply below_drew1) | exact HB.out)) hb); have n2_ := Aside0.mk (hbox); have n3_ := Aside0.mk ((by rw [hg]; exact (below_size (by repeat (first | (with_reducible first | exact HB.out | apply below_alloc | apply pw_below_drewN | apply below_drew1) | exact HB.out))) : w.heap.size ≤ gb105)); have n4_ := Aside0.mk ((by rw [hg]; exact (below_size (by repeat (first | (with_reducible first | exact HB.out | apply below_alloc | apply pw_below_drewN | apply below_drew1) | exact HB.out))) : w.heap.size ≤ gb105)); clear HO_12; clear HB; have HO_12 := n0_; have HB := n1_; have BK105 := n2_; have GW105 := n3_; have GE105 := n4_; clear n0_ n1_ n2_ n3_ n4_; clear hb hbox hg; have hcz30_0 : w29.cell? ⟨gb105, 0, none⟩ = some (.bool false) := (blk_cell BK105.out 0).trans rfl; have hcz30_1 : w29.cell? ⟨gb105, 1, none⟩ = some (.int .i64 0) := (blk_cell BK105.out 1).trans rfl; have hcz30_2 : w29.cell? ⟨gb105, 2, none⟩ = some (.int .i64 0) := (blk_cell BK105.out 2).trans rfl; have hcz30_3 : w29.cell? ⟨gb105, 3, none⟩ = some (.int .i64 0) := (blk_cell BK105.out 3).trans rfl; have hcz30_4 : w29.cell? ⟨gb105, 4, none⟩ = some (.int .i64 0) := (blk_cell BK105.out 4).trans rfl; have hcz30_5 : w29.cell? ⟨gb105, 5, none⟩ = some (.int .i64 0) := (blk_cell BK105.out 5).trans rfl; have hcz30_6 : w29.cell? ⟨gb105, 6, none⟩ = some (.int .i64 0) := (blk_cell BK105.out 6).trans rfl; have hfz30_0 := blk_frozen BK105.out 0; have hfz30_1 := blk_frozen BK105.out 1; have hfz30_2 := blk_frozen BK105.out 2; have hfz30_3 := blk_frozen BK105.out 3; have hfz30_4 := blk_frozen BK105.out 4; have hfz30_5 := blk_frozen BK105.out 5; have hfz30_6 := blk_frozen BK105.out 6))
            repeat (go_quiet (first | ((with_reducible refine gate_dst (N := 17) rfl ?_); refine box_event ?hg (N := 17) ?hd (cs := #[.bool false, .int .i64 0, .int .i64 0, .int .i64 0, .int .i64 0, .int .i64 0, .int .i64 0]) (t := 81) ?hr ?_; (case hd => rfl); (case hg => rfl); (case hr => first | (go_simp; done) | (go_simp; rfl)); intro gb105 hg w29 hbox hb; have n0_ := Aside0.mk (Kd.R_below (Kd.R_elderB (by (with_reducible repeat (first | apply Kd.R_alloc | apply Kd.R_drewN | apply Kd.R_drew)); exact HO_12.out) gb105 (Nat.le_of_eq hg.symm)) hb); have n1_ := Aside0.mk (below_step (by repeat (first | (with_reducible first | exact HB.out | apply below_alloc | apply pw_below_drewN | apply below_drew1) | exact HB.out)) hb); have n2_ := Aside0.mk (hbox); have n3_ := Aside0.mk ((by rw [hg]; exact (below_size (by repeat (first | (with_reducible first | exact HB.out | apply below_alloc | apply pw_below_drewN | apply below_drew1) | exact HB.out))) : w.heap.size ≤ gb105)); have n4_ := Aside0.mk ((by rw [hg]; exact (below_size (by repeat (first | (with_reducible first | exact HB.out | apply below_alloc | apply pw_below_drewN | apply below_drew1) | exact HB.out))) : w.heap.size ≤ gb105)); clear HO_12; clear HB; have HO_12 := n0_; have HB := n1_; have BK105 := n2_; have GW105 := n3_; have GE105 := n4_; clear n0_ n1_ n2_ n3_ n4_; clear hb hbox hg; have hcz30_0 : w29.cell? ⟨gb105, 0, none⟩ = some (.bool false) := (blk_cell BK105.out 0).trans rfl; have hcz30_1 : w29.cell? ⟨gb105, 1, none⟩ = some (.int .i64 0) := (blk_cell BK105.out 1).trans rfl; have hcz30_2 : w29.cell? ⟨gb105, 2, none⟩ = some (.int .i64 0) := (blk_cell BK105.out 2).trans rfl; have hcz30_3 : w29.cell? ⟨gb105, 3, none⟩ = some (.int .i64 0) := (blk_cell BK105.out 3).trans rfl; have hcz30_4 : w29.cell? ⟨gb105, 4, none⟩ = some (.int .i64 0) := (blk_cell BK105.out 4).trans rfl; have hcz30_5 : w29.cell? ⟨gb105, 5, none⟩ = some (.int .i64 0) := (blk_cell BK105.out 5).trans rfl; have hcz30_6 : w29.cell? ⟨gb105, 6, none⟩ = some (.int .i64 0) := (blk_cell BK105.out 6).trans rfl; have hfz30_0 := blk_frozen BK105.out 0; have hfz30_1 := blk_frozen BK105.out 1; have hfz30_2 := blk_frozen BK105.out 2; have hfz30_3 := blk_frozen BK105.out 3; have hfz30_4 := blk_frozen BK105.out 4; have hfz30_5 := blk_frozen BK105.out 5; have hfz30_6 := blk_frozen BK105.out 6)); go_upto_block 4 with (first | ((with_reducible refine gate_dst (N := 17) rfl ?_); refine box_event ?hg (N := 17) ?hd (cs := #[.bool false, .int .i64 0, .int .i64 0, .int .i64 0, .int .i64 0, .int .i64 0, .int .i64 0]) (t := 81) ?hr ?_; (case hd => rfl); (case hg => rfl); (case hr => first | (go_simp; done) | (go_simp; rfl)); intro gb105 hg w29 hbox hb; have n0_ := Aside0.mk (Kd.R_below (Kd.R_elderB (by (with_reducible repeat (first | apply Kd.R_alloc | apply Kd.R_drewN | apply Kd.R_drew)); exact HO_12.out) gb105 (Nat.le_of_eq hg.symm)) hb); have n1_ := Aside0.mk (below_step (by repeat (first | (with_reducible first | exact HB.out | apply below_alloc | apply pw_below_drewN | apply below_drew1) | exact HB.out)) hb); have n2_ := Aside0.mk (hbox); have n3_ := Aside0.mk ((by rw [hg]; exact (below_size (by repeat (first | (with_reducible first | exact HB.out | apply below_alloc | apply pw_below_drewN | apply below_drew1) | exact HB.out))) : w.heap.size ≤ gb105)); have n4_ := Aside0.mk ((by rw [hg]; exact (below_size (by repeat (first | (with_reducible first | exact HB.out | apply below_alloc | apply pw_below_drewN | apply below_drew1) | exact HB.out))) : w.heap.size ≤ gb105)); clear HO_12; clear HB; have HO_12 := n0_; have HB := n1_; have BK105 := n2_; have GW105 := n3_; have GE105 := n4_; clear n0_ n1_ n2_ n3_ n4_; clear hb hbox hg; have hcz30_0 : w29.cell? ⟨gb105, 0, none⟩ = some (.bool false) := (blk_cell BK105.out 0).trans rfl; have hcz30_1 : w29.cell? ⟨gb105, 1, none⟩ = some (.int .i64 0) := (blk_cell BK105.out 1).trans rfl; have hcz30_2 : w29.cell? ⟨gb105, 2, none⟩ = some (.int .i64 0) := (blk_cell BK105.out 2).trans rfl; have hcz30_3 : w29.cell? ⟨gb105, 3, none⟩ = some (.int .i64 0) := (blk_cell BK105.out 3).trans rfl; have hcz30_4 : w29.cell? ⟨gb105, 4, none⟩ = some (.int .i64 0) := (blk_cell BK105.out 4).trans rfl; have hcz30_5 : w29.cell? ⟨gb105, 5, none⟩ = some (.int .i64 0) := (blk_cell BK105.out 5).trans rfl; have hcz30_6 : w29.cell? ⟨gb105, 6, none⟩ = some (.int .i64 0) := (blk_cell BK105.out 6).trans rfl; have hfz30_0 := blk_frozen BK105.out 0; have hfz30_1 := blk_frozen BK105.out 1; have hfz30_2 := blk_frozen BK105.out 2; have hfz30_3 := blk_frozen BK105.out 3; have hfz30_4 := blk_frozen BK105.out 4; have hfz30_5 := blk_frozen BK105.out 5; have hfz30_6 := blk_frozen BK105.out 6)))
            (try simp only [Act.put, List.setIfInBounds_toArray, List.set_cons_zero, List.set_cons_succ])
            go_cut [18] (fun v18 wc => ∃ (kq : Nat) (x18_27 : Int), v18 = .int .i64 x18_27 ∧ Aside0 (tripartiteref06_Of.j6 kq a0 a1 a2 l3 l4 x12_2 x18_27 (decide (x16_20 > 0)) x13_2 (wrap64 (x13_2 + x16_20)) x14_2 (wrap64 (x14_2 + x16_20)) x15_2 (wrap64 (x15_2 + x16_20)) = some (r1, r2)) ∧ Aside0 (kq ≤ kj20) ∧ Aside0 (Kd.R k81 81 wc w.heap.size (fun k_ => k_ ≠ gb105) u12 x12_2) ∧ Aside0 (wc.heap[gb105]? = some (.cells #[.bool (decide (x16_20 > 0)), .int .i64 x13_2, .int .i64 (wrap64 (x13_2 + x16_20)), .int .i64 x14_2, .int .i64 (wrap64 (x14_2 + x16_20)), .int .i64 x15_2, .int .i64 (wrap64 (x15_2 + x16_20))] 81 (0, 0))) ∧ Aside0 (Below w.heap.size w wc))
            case first =>
             have H := HC28.out
             clear HC28
             have H' := Aside0.mk H
             clear H
             go_wp2
             repeat (go_quiet (fail); try go_wp2)
             go_loopg [18] kj20 (fun kq v18 w' => ∃ (x18_5 : Int), v18 = .int .i64 x18_5 ∧ Aside0 (tripartiteref06_Of.l2 kq a0 a1 a2 l3 l4 x12_2 x14_2 x15_2 x18_5 (decide (x16_20 > 0)) x13_2 (wrap64 (x13_2 + x16_20)) x14_2 (wrap64 (x14_2 + x16_20)) x15_2 (wrap64 (x15_2 + x16_20)) = some (r1, r2)) ∧ Aside0 (kq ≤ kj20) ∧ Aside0 (Kd.R k81 81 w' w.heap.size (fun k_ => k_ ≠ gb105) u12 x12_2) ∧ Aside0 (w'.heap[gb105]? = some (.cells #[.bool (decide (x16_20 > 0)), .int .i64 x13_2, .int .i64 (wrap64 (x13_2 + x16_20)), .int .i64 x14_2, .int .i64 (wrap64 (x14_2 + x16_20)), .int .i64 x15_2, .int .i64 (wrap64 (x15_2 + x16_20))] 81 (0, 0))) ∧ Aside0 (Below w.heap.size w w'))
             case atStart => exact ⟨(x13_2), (by first | rfl | (simp; done) | (simp [*]; done)), H', ⟨Nat.le_refl _⟩, ⟨by (with_reducible repeat (first | apply Kd.R_alloc | apply Kd.R_drewN | apply Kd.R_drew)); exact Kd.R_mono (Kd.R_far (p := ⟨gb105, 6, none⟩) (Kd.R_far (p := ⟨gb105, 5, none⟩) (Kd.R_far (p := ⟨gb105, 4, none⟩) (Kd.R_far (p := ⟨gb105, 3, none⟩) (Kd.R_far (p := ⟨gb105, 2, none⟩) (Kd.R_far (p := ⟨gb105, 1, none⟩) (Kd.R_far (p := ⟨gb105, 0, none⟩) (Kd.R_mono HO_12.out (fun k_ hk => (⟨hk, hk.2⟩ : _ ∧ k_ ≠ gb105))) (fun _ hk => hk.2) (.bool (decide (x16_20 > 0)))) (fun _ hk => hk.2) (.int .i64 x13_2)) (fun _ hk => hk.2) (.int .i64 (wrap64 (x13_2 + x16_20)))) (fun _ hk => hk.2) (.int .i64 x14_2)) (fun _ hk => hk.2) (.int .i64 (wrap64 (x14_2 + x16_20)))) (fun _ hk => hk.2) (.int .i64 x15_2)) (fun _ hk => hk.2) (.int .i64 (wrap64 (x15_2 + x16_20)))) (fun _ hk => hk.1.2)⟩, ⟨by (with_reducible repeat (first | refine blk_drewN ?_ _ | refine blk_drew ?_ | refine blk_alloc ?_ _)); refine blk_put (cs := #[.bool (decide (x16_20 > 0)), .int .i64 x13_2, .int .i64 (wrap64 (x13_2 + x16_20)), .int .i64 x14_2, .int .i64 (wrap64 (x14_2 + x16_20)), .int .i64 x15_2, .int .i64 0]) ?_ 6 _ rfl; (with_reducible repeat (first | refine blk_drewN ?_ _ | refine blk_drew ?_ | refine blk_alloc ?_ _)); refine blk_put (cs := #[.bool (decide (x16_20 > 0)), .int .i64 x13_2, .int .i64 (wrap64 (x13_2 + x16_20)), .int .i64 x14_2, .int .i64 (wrap64 (x14_2 + x16_20)), .int .i64 0, .int .i64 0]) ?_ 5 _ rfl; (with_reducible repeat (first | refine blk_drewN ?_ _ | refine blk_drew ?_ | refine blk_alloc ?_ _)); refine blk_put (cs := #[.bool (decide (x16_20 > 0)), .int .i64 x13_2, .int .i64 (wrap64 (x13_2 + x16_20)), .int .i64 x14_2, .int .i64 0, .int .i64 0, .int .i64 0]) ?_ 4 _ rfl; (with_reducible repeat (first | refine blk_drewN ?_ _ | refine blk_drew ?_ | refine blk_alloc ?_ _)); refine blk_put (cs := #[.bool (decide (x16_20 > 0)), .int .i64 x13_2, .int .i64 (wrap64 (x13_2 + x16_20)), .int .i64 0, .int .i64 0, .int .i64 0, .int .i64 0]) ?_ 3 _ rfl; (with_reducible repeat (first | refine blk_drewN ?_ _ | refine blk_drew ?_ | refine blk_alloc ?_ _)); refine blk_put (cs := #[.bool (decide (x16_20 > 0)), .int .i64 x13_2, .int .i64 0, .int .i64 0, .int .i64 0, .int .i64 0, .int .i64 0]) ?_ 2 _ rfl; (with_reducible repeat (first | refine blk_drewN ?_ _ | refine blk_drew ?_ | refine blk_alloc ?_ _)); refine blk_put (cs := #[.bool (decide (x16_20 > 0)), .int .i64 0, .int .i64 0, .int .i64 0, .int .i64 0, .int .i64 0, .int .i64 0]) ?_ 1 _ rfl; (with_reducible repeat (first | refine blk_drewN ?_ _ | refine blk_drew ?_ | refine blk_alloc ?_ _)); refine blk_put (cs := #[.bool false, .int .i64 0, .int .i64 0, .int .i64 0, .int .i64 0, .int .i64 0, .int .i64 0]) ?_ 0 _ rfl; (with_reducible repeat (first | refine blk_drewN ?_ _ | refine blk_drew ?_ | refine blk_alloc ?_ _)); exact BK105.out⟩, ⟨by repeat (first | (with_reducible first | exact HB.out | apply below_alloc | apply pw_below_drewN | apply below_drew1 | refine below_set ?_ GE105.out) | exact HB.out)⟩⟩
             case round =>
              clear H'
              try clear c1
              try clear c2
              try clear p2
              try clear c3
              try clear c4
              try clear c5
              try clear p6
              try clear c7
              try clear c7b0
              try clear c8
              try clear c8b0
              try clear c9
              try clear c9b0
              try clear c11
              try clear c16
              try clear c18
              try clear c18b0
              try clear c19
              try clear c19b0
              try clear c20
              try clear c22
              try clear c22b0
              try clear c24
              try clear c24b0
              try clear c24b1
              try clear c26
              try clear c26b0
              try clear c26b1
              try clear c27
              try clear c27b0
              try clear c27b1
              try clear hcz30_0
              try clear hcz30_1
              try clear hcz30_2
              try clear hcz30_3
              try clear hcz30_4
              try clear hcz30_5
              try clear hcz30_6
              try clear hfz30_0
              try clear hfz30_1
              try clear hfz30_2
              try clear hfz30_3
              try clear hfz30_4
              try clear hfz30_5
              try clear hfz30_6
              try clear p2
              try clear p6
              obtain ⟨x18_5, rfl, HA, HK5, HO_12, BK105, HB⟩ := hrel
              cases gk with
              | zero => exact absurd HA.out (by simp [tripartiteref06_Of.l2])
              | succ k5 =>
               have H := HA.out
               clear HA
               simp only [tripartiteref06_Of.l2] at H
               by_cases c31 : x18_5 < a0
               ·rw [if_pos c31] at H
                have c31b0 : decide (x18_5 < a0) = true := decide_eq_true c31
                clear c31
                (first | rw [c31b0] | (simp only [i64_w, i32_w]; rw [c31b0]) | skip)
                replace H := Option.bind_eq_some_iff.mp H
                obtain ⟨t106, A320, H⟩ := H
                replace H : (if t106 < x14_2 then (tripartiteref06_Of.l2 k5 a0 a1 a2 l3 l4 x12_2 x14_2 x15_2 (wrap64 (x18_5 + 1)) (decide (x16_20 > 0)) x13_2 (wrap64 (x13_2 + x16_20)) x14_2 (wrap64 (x14_2 + x16_20)) x15_2 (wrap64 (x15_2 + x16_20))) else ((tripartiteref06_at.f k5 l4 x18_5).bind fun t107 => (if t107 < x15_2 then (tripartiteref06_Of.l2 k5 a0 a1 a2 l3 l4 x12_2 x14_2 x15_2 (wrap64 (x18_5 + 1)) (decide (x16_20 > 0)) x13_2 (wrap64 (x13_2 + x16_20)) x14_2 (wrap64 (x14_2 + x16_20)) x15_2 (wrap64 (x15_2 + x16_20))) else (tripartiteref06_Of.j6 k5 a0 a1 a2 l3 l4 x12_2 x18_5 (decide (x16_20 > 0)) x13_2 (wrap64 (x13_2 + x16_20)) x14_2 (wrap64 (x14_2 + x16_20)) x15_2 (wrap64 (x15_2 + x16_20)))))) = some (r1, r2) := H
                have A32 := Aside0.mk A320
                clear A320
                by_cases c33 : t106 < x14_2
                ·rw [if_pos c33] at H
                 have c33b0 : decide (t106 < x14_2) = true := decide_eq_true c33
                 clear c33
                 have H' := Aside0.mk H
                 clear H
                 go_wp2_with (first | (go_at_call 95; (with_reducible refine (tripartiteref06_at.calls k5 _ _ l3 x18_5 t106 _ ?side1 ?side2 A32.out).mono ?_); (case side1 => repeat (first | exact (Kd.C_below HR3.out HB.out) | (with_reducible refine Kd.C_alloc ?_ _) | (with_reducible refine Kd.C_drewN ?_ _) | (with_reducible refine Kd.C_drew ?_))); (case side2 => exact HC3.out); rintro e w' ⟨rfl, ⟨nd, rfl⟩⟩; (try first | exact ⟨rfl, _, World.drewN_drewN _ _ _⟩ | exact ⟨rfl, _, Eq.trans (World.drewN_drewN _ _ _) (congrArg (World.drewN _) (Nat.add_assoc _ _ _))⟩)))
                 repeat (go_quiet (first | (go_at_call 95; (with_reducible refine (tripartiteref06_at.calls k5 _ _ l3 x18_5 t106 _ ?side1 ?side2 A32.out).mono ?_); (case side1 => repeat (first | exact (Kd.C_below HR3.out HB.out) | (with_reducible refine Kd.C_alloc ?_ _) | (with_reducible refine Kd.C_drewN ?_ _) | (with_reducible refine Kd.C_drew ?_))); (case side2 => exact HC3.out); rintro e w' ⟨rfl, ⟨nd, rfl⟩⟩; (try first | exact ⟨rfl, _, World.drewN_drewN _ _ _⟩ | exact ⟨rfl, _, Eq.trans (World.drewN_drewN _ _ _) (congrArg (World.drewN _) (Nat.add_assoc _ _ _))⟩))); try go_wp2_with (first | (go_at_call 95; (with_reducible refine (tripartiteref06_at.calls k5 _ _ l3 x18_5 t106 _ ?side1 ?side2 A32.out).mono ?_); (case side1 => repeat (first | exact (Kd.C_below HR3.out HB.out) | (with_reducible refine Kd.C_alloc ?_ _) | (with_reducible refine Kd.C_drewN ?_ _) | (with_reducible refine Kd.C_drew ?_))); (case side2 => exact HC3.out); rintro e w' ⟨rfl, ⟨nd, rfl⟩⟩; (try first | exact ⟨rfl, _, World.drewN_drewN _ _ _⟩ | exact ⟨rfl, _, Eq.trans (World.drewN_drewN _ _ _) (congrArg (World.drewN _) (Nat.add_assoc _ _ _))⟩))))
                 go_roundg k5
                 case measure => have := HJ5.out; have := HK2.out; have := HJ16.out; have := HJ20.out; have := HK5.out; omega
                 case rel => exact ⟨(wrap64 (x18_5 + 1)), (by first | rfl | (simp; done) | (simp [*]; done)), H', ⟨by have := HJ5.out; have := HK2.out; have := HJ16.out; have := HJ20.out; have := HK5.out; omega⟩, ⟨by (with_reducible repeat (first | apply Kd.R_alloc | apply Kd.R_drewN | apply Kd.R_drew)); exact HO_12.out⟩, ⟨by (with_reducible repeat (first | refine blk_drewN ?_ _ | refine blk_drew ?_ | refine blk_alloc ?_ _)); exact BK105.out⟩, ⟨by repeat (first | (with_reducible first | exact HB.out | apply below_alloc | apply pw_below_drewN | apply below_drew1 | refine below_set ?_ GE105.out) | exact HB.out)⟩⟩
                ·rw [if_neg c33] at H
                 have c33b0 : decide (t106 < x14_2) = false := decide_eq_false c33
                 clear c33
                 replace H := Option.bind_eq_some_iff.mp H
                 obtain ⟨t107, A340, H⟩ := H
                 replace H : (if t107 < x15_2 then (tripartiteref06_Of.l2 k5 a0 a1 a2 l3 l4 x12_2 x14_2 x15_2 (wrap64 (x18_5 + 1)) (decide (x16_20 > 0)) x13_2 (wrap64 (x13_2 + x16_20)) x14_2 (wrap64 (x14_2 + x16_20)) x15_2 (wrap64 (x15_2 + x16_20))) else (tripartiteref06_Of.j6 k5 a0 a1 a2 l3 l4 x12_2 x18_5 (decide (x16_20 > 0)) x13_2 (wrap64 (x13_2 + x16_20)) x14_2 (wrap64 (x14_2 + x16_20)) x15_2 (wrap64 (x15_2 + x16_20)))) = some (r1, r2) := H
                 have A34 := Aside0.mk A340
                 clear A340
                 by_cases c35 : t107 < x15_2
                 ·rw [if_pos c35] at H
                  have c35b0 : decide (t107 < x15_2) = true := decide_eq_true c35
                  clear c35
                  have H' := Aside0.mk H
                  clear H
                  go_wp2_with (first | (go_at_call 95; (with_reducible refine (tripartiteref06_at.calls k5 _ _ l3 x18_5 t106 _ ?side1 ?side2 A32.out).mono ?_); (case side1 => repeat (first | exact (Kd.C_below HR3.out HB.out) | (with_reducible refine Kd.C_alloc ?_ _) | (with_reducible refine Kd.C_drewN ?_ _) | (with_reducible refine Kd.C_drew ?_))); (case side2 => exact HC3.out); rintro e w' ⟨rfl, ⟨nd, rfl⟩⟩; (try first | exact ⟨rfl, _, World.drewN_drewN _ _ _⟩ | exact ⟨rfl, _, Eq.trans (World.drewN_drewN _ _ _) (congrArg (World.drewN _) (Nat.add_assoc _ _ _))⟩)) | (go_at_call 95; (with_reducible refine (tripartiteref06_at.calls k5 _ _ l4 x18_5 t107 _ ?side1 ?side2 A34.out).mono ?_); (case side1 => repeat (first | exact (Kd.C_below HR4.out (by repeat (first | (with_reducible first | exact HB.out | apply below_alloc | apply pw_below_drewN | apply below_drew1 | refine below_set ?_ GE105.out) | exact HB.out))) | (with_reducible refine Kd.C_alloc ?_ _) | (with_reducible refine Kd.C_drewN ?_ _) | (with_reducible refine Kd.C_drew ?_))); (case side2 => exact HC4.out); rintro e w' ⟨rfl, ⟨nd, rfl⟩⟩; (try first | exact ⟨rfl, _, World.drewN_drewN _ _ _⟩ | exact ⟨rfl, _, Eq.trans (World.drewN_drewN _ _ _) (congrArg (World.drewN _) (Nat.add_assoc _ _ _))⟩)))
                  repeat (go_quiet (first | (go_at_call 95; (with_reducible refine (tripartiteref06_at.calls k5 _ _ l3 x18_5 t106 _ ?side1 ?side2 A32.out).mono ?_); (case side1 => repeat (first | exact (Kd.C_below HR3.out HB.out) | (with_reducible refine Kd.C_alloc ?_ _) | (with_reducible refine Kd.C_drewN ?_ _) | (with_reducible refine Kd.C_drew ?_))); (case side2 => exact HC3.out); rintro e w' ⟨rfl, ⟨nd, rfl⟩⟩; (try first | exact ⟨rfl, _, World.drewN_drewN _ _ _⟩ | exact ⟨rfl, _, Eq.trans (World.drewN_drewN _ _ _) (congrArg (World.drewN _) (Nat.add_assoc _ _ _))⟩)) | (go_at_call 95; (with_reducible refine (tripartiteref06_at.calls k5 _ _ l4 x18_5 t107 _ ?side1 ?side2 A34.out).mono ?_); (case side1 => repeat (first | exact (Kd.C_below HR4.out (by repeat (first | (with_reducible first | exact HB.out | apply below_alloc | apply pw_below_drewN | apply below_drew1 | refine below_set ?_ GE105.out) | exact HB.out))) | (with_reducible refine Kd.C_alloc ?_ _) | (with_reducible refine Kd.C_drewN ?_ _) | (with_reducible refine Kd.C_drew ?_))); (case side2 => exact HC4.out); rintro e w' ⟨rfl, ⟨nd, rfl⟩⟩; (try first | exact ⟨rfl, _, World.drewN_drewN _ _ _⟩ | exact ⟨rfl, _, Eq.trans (World.drewN_drewN _ _ _) (congrArg (World.drewN _) (Nat.add_assoc _ _ _))⟩))); try go_wp2_with (first | (go_at_call 95; (with_reducible refine (tripartiteref06_at.calls k5 _ _ l3 x18_5 t106 _ ?side1 ?side2 A32.out).mono ?_); (case side1 => repeat (first | exact (Kd.C_below HR3.out HB.out) | (with_reducible refine Kd.C_alloc ?_ _) | (with_reducible refine Kd.C_drewN ?_ _) | (with_reducible refine Kd.C_drew ?_))); (case side2 => exact HC3.out); rintro e w' ⟨rfl, ⟨nd, rfl⟩⟩; (try first | exact ⟨rfl, _, World.drewN_drewN _ _ _⟩ | exact ⟨rfl, _, Eq.trans (World.drewN_drewN _ _ _) (congrArg (World.drewN _) (Nat.add_assoc _ _ _))⟩)) | (go_at_call 95; (with_reducible refine (tripartiteref06_at.calls k5 _ _ l4 x18_5 t107 _ ?side1 ?side2 A34.out).mono ?_); (case side1 => repeat (first | exact (Kd.C_below HR4.out (by repeat (first | (with_reducible first | exact HB.out | apply below_alloc | apply pw_below_drewN | apply below_drew1 | refine below_set ?_ GE105.out) | exact HB.out))) | (with_reducible refine Kd.C_alloc ?_ _) | (with_reducible refine Kd.C_drewN ?_ _) | (with_reducible refine Kd.C_drew ?_))); (case side2 => exact HC4.out); rintro e w' ⟨rfl, ⟨nd, rfl⟩⟩; (try first | exact ⟨rfl, _, World.drewN_drewN _ _ _⟩ | exact ⟨rfl, _, Eq.trans (World.drewN_drewN _ _ _) (congrArg (World.drewN _) (Nat.add_assoc _ _ _))⟩))))
                  go_roundg k5
                  case measure => have := HJ5.out; have := HK2.out; have := HJ16.out; have := HJ20.out; have := HK5.out; omega
                  case rel => exact ⟨(wrap64 (x18_5 + 1)), (by first | rfl | (simp; done) | (simp [*]; done)), H', ⟨by have := HJ5.out; have := HK2.out; have := HJ16.out; have := HJ20.out; have := HK5.out; omega⟩, ⟨by (with_reducible repeat (first | apply Kd.R_alloc | apply Kd.R_drewN | apply Kd.R_drew)); exact HO_12.out⟩, ⟨by (with_reducible repeat (first | refine blk_drewN ?_ _ | refine blk_drew ?_ | refine blk_alloc ?_ _)); exact BK105.out⟩, ⟨by repeat (first | (with_reducible first | exact HB.out | apply below_alloc | apply pw_below_drewN | apply below_drew1 | refine below_set ?_ GE105.out) | exact HB.out)⟩⟩
                 ·rw [if_neg c35] at H
                  have c35b0 : decide (t107 < x15_2) = false := decide_eq_false c35
                  clear c35
                  have H' := Aside0.mk H
                  clear H
                  go_wp2_with (first | (go_at_call 95; (with_reducible refine (tripartiteref06_at.calls k5 _ _ l3 x18_5 t106 _ ?side1 ?side2 A32.out).mono ?_); (case side1 => repeat (first | exact (Kd.C_below HR3.out HB.out) | (with_reducible refine Kd.C_alloc ?_ _) | (with_reducible refine Kd.C_drewN ?_ _) | (with_reducible refine Kd.C_drew ?_))); (case side2 => exact HC3.out); rintro e w' ⟨rfl, ⟨nd, rfl⟩⟩; (try first | exact ⟨rfl, _, World.drewN_drewN _ _ _⟩ | exact ⟨rfl, _, Eq.trans (World.drewN_drewN _ _ _) (congrArg (World.drewN _) (Nat.add_assoc _ _ _))⟩)) | (go_at_call 95; (with_reducible refine (tripartiteref06_at.calls k5 _ _ l4 x18_5 t107 _ ?side1 ?side2 A34.out).mono ?_); (case side1 => repeat (first | exact (Kd.C_below HR4.out (by repeat (first | (with_reducible first | exact HB.out | apply below_alloc | apply pw_below_drewN | apply below_drew1 | refine below_set ?_ GE105.out) | exact HB.out))) | (with_reducible refine Kd.C_alloc ?_ _) | (with_reducible refine Kd.C_drewN ?_ _) | (with_reducible refine Kd.C_drew ?_))); (case side2 => exact HC4.out); rintro e w' ⟨rfl, ⟨nd, rfl⟩⟩; (try first | exact ⟨rfl, _, World.drewN_drewN _ _ _⟩ | exact ⟨rfl, _, Eq.trans (World.drewN_drewN _ _ _) (congrArg (World.drewN _) (Nat.add_assoc _ _ _))⟩)))
                  repeat (go_quiet (first | (go_at_call 95; (with_reducible refine (tripartiteref06_at.calls k5 _ _ l3 x18_5 t106 _ ?side1 ?side2 A32.out).mono ?_); (case side1 => repeat (first | exact (Kd.C_below HR3.out HB.out) | (with_reducible refine Kd.C_alloc ?_ _) | (with_reducible refine Kd.C_drewN ?_ _) | (with_reducible refine Kd.C_drew ?_))); (case side2 => exact HC3.out); rintro e w' ⟨rfl, ⟨nd, rfl⟩⟩; (try first | exact ⟨rfl, _, World.drewN_drewN _ _ _⟩ | exact ⟨rfl, _, Eq.trans (World.drewN_drewN _ _ _) (congrArg (World.drewN _) (Nat.add_assoc _ _ _))⟩)) | (go_at_call 95; (with_reducible refine (tripartiteref06_at.calls k5 _ _ l4 x18_5 t107 _ ?side1 ?side2 A34.out).mono ?_); (case side1 => repeat (first | exact (Kd.C_below HR4.out (by repeat (first | (with_reducible first | exact HB.out | apply below_alloc | apply pw_below_drewN | apply below_drew1 | refine below_set ?_ GE105.out) | exact HB.out))) | (with_reducible refine Kd.C_alloc ?_ _) | (with_reducible refine Kd.C_drewN ?_ _) | (with_reducible refine Kd.C_drew ?_))); (case side2 => exact HC4.out); rintro e w' ⟨rfl, ⟨nd, rfl⟩⟩; (try first | exact ⟨rfl, _, World.drewN_drewN _ _ _⟩ | exact ⟨rfl, _, Eq.trans (World.drewN_drewN _ _ _) (congrArg (World.drewN _) (Nat.add_assoc _ _ _))⟩))); try go_wp2_with (first | (go_at_call 95; (with_reducible refine (tripartiteref06_at.calls k5 _ _ l3 x18_5 t106 _ ?side1 ?side2 A32.out).mono ?_); (case side1 => repeat (first | exact (Kd.C_below HR3.out HB.out) | (with_reducible refine Kd.C_alloc ?_ _) | (with_reducible refine Kd.C_drewN ?_ _) | (with_reducible refine Kd.C_drew ?_))); (case side2 => exact HC3.out); rintro e w' ⟨rfl, ⟨nd, rfl⟩⟩; (try first | exact ⟨rfl, _, World.drewN_drewN _ _ _⟩ | exact ⟨rfl, _, Eq.trans (World.drewN_drewN _ _ _) (congrArg (World.drewN _) (Nat.add_assoc _ _ _))⟩)) | (go_at_call 95; (with_reducible refine (tripartiteref06_at.calls k5 _ _ l4 x18_5 t107 _ ?side1 ?side2 A34.out).mono ?_); (case side1 => repeat (first | exact (Kd.C_below HR4.out (by repeat (first | (with_reducible first | exact HB.out | apply below_alloc | apply pw_below_drewN | apply below_drew1 | refine below_set ?_ GE105.out) | exact HB.out))) | (with_reducible refine Kd.C_alloc ?_ _) | (with_reducible refine Kd.C_drewN ?_ _) | (with_reducible refine Kd.C_drew ?_))); (case side2 => exact HC4.out); rintro e w' ⟨rfl, ⟨nd, rfl⟩⟩; (try first | exact ⟨rfl, _, World.drewN_drewN _ _ _⟩ | exact ⟨rfl, _, Eq.trans (World.drewN_drewN _ _ _) (congrArg (World.drewN _) (Nat.add_assoc _ _ _))⟩))))
                  go_meet
                  case rel => exact ⟨_, (x18_5), (by first | rfl | (simp; done) | (simp [*]; done)), H', ⟨by have := HJ5.out; have := HK2.out; have := HJ16.out; have := HJ20.out; have := HK5.out; first | omega | exact Nat.le_refl _⟩, ⟨by (with_reducible repeat (first | apply Kd.R_alloc | apply Kd.R_drewN | apply Kd.R_drew)); exact HO_12.out⟩, ⟨by (with_reducible repeat (first | refine blk_drewN ?_ _ | refine blk_drew ?_ | refine blk_alloc ?_ _)); exact BK105.out⟩, ⟨by repeat (first | (with_reducible first | exact HB.out | apply below_alloc | apply pw_below_drewN | apply below_drew1 | refine below_set ?_ GE105.out) | exact HB.out)⟩⟩
               ·rw [if_neg c31] at H
                have c31b0 : decide (x18_5 < a0) = false := decide_eq_false c31
                clear c31
                (first | rw [c31b0] | (simp only [i64_w, i32_w]; rw [c31b0]) | skip)
                have H' := Aside0.mk H
                clear H
                go_wp2
                repeat (go_quiet (fail); try go_wp2)
                go_meet
                case rel => exact ⟨_, (x18_5), (by first | rfl | (simp; done) | (simp [*]; done)), H', ⟨by have := HJ5.out; have := HK2.out; have := HJ16.out; have := HJ20.out; have := HK5.out; first | omega | exact Nat.le_refl _⟩, ⟨by (with_reducible repeat (first | apply Kd.R_alloc | apply Kd.R_drewN | apply Kd.R_drew)); exact HO_12.out⟩, ⟨by (with_reducible repeat (first | refine blk_drewN ?_ _ | refine blk_drew ?_ | refine blk_alloc ?_ _)); exact BK105.out⟩, ⟨by repeat (first | (with_reducible first | exact HB.out | apply below_alloc | apply pw_below_drewN | apply below_drew1 | refine below_set ?_ GE105.out) | exact HB.out)⟩⟩
            case rest =>
             clear HC28
             try clear c1
             try clear c2
             try clear p2
             try clear c3
             try clear c4
             try clear c5
             try clear p6
             try clear c7
             try clear c7b0
             try clear c8
             try clear c8b0
             try clear c9
             try clear c9b0
             try clear c11
             try clear c16
             try clear c18
             try clear c18b0
             try clear c19
             try clear c19b0
             try clear c20
             try clear c22
             try clear c22b0
             try clear c24
             try clear c24b0
             try clear c24b1
             try clear c26
             try clear c26b0
             try clear c26b1
             try clear c27
             try clear c27b0
             try clear c27b1
             try clear c31
             try clear c31b0
             try clear c33
             try clear c33b0
             try clear c35
             try clear c35b0
             try clear hcz30_0
             try clear hcz30_1
             try clear hcz30_2
             try clear hcz30_3
             try clear hcz30_4
             try clear hcz30_5
             try clear hcz30_6
             try clear hfz30_0
             try clear hfz30_1
             try clear hfz30_2
             try clear hfz30_3
             try clear hfz30_4
             try clear hfz30_5
             try clear hfz30_6
             try clear p2
             try clear p6
             obtain ⟨kq, x18_27, rfl, HA, HJ27, HO_12, BK105, HB⟩ := hcut
             cases kq with
             | zero => exact absurd HA.out (by simp [tripartiteref06_Of.j6])
             | succ kj27 =>
              have H := HA.out
              clear HA
              simp only [tripartiteref06_Of.j6] at H
              by_cases c36 : x18_27 < a0
              ·rw [if_pos c36] at H
               have c36b0 : decide (x18_27 < a0) = true := decide_eq_true c36
               clear c36
               replace H := Option.bind_eq_some_iff.mp H
               obtain ⟨t108, A370, H⟩ := H
               replace H : ((tripartiteref06_at.f kj27 l4 x18_27).bind fun t109 => (if x12_2.length < 2513169434916 then (tripartiteref06_Of.l0 kj27 a0 a1 a2 l3 l4 (x12_2 ++ [(⟨(decide (x16_20 > 0)), (⟨x13_2, x18_27⟩ : S79), (⟨x14_2, t108⟩ : S79), (⟨x15_2, t109⟩ : S79)⟩ : S81)]) x18_27 t108 t109) else (none))) = some (r1, r2) := H
               have A37 := Aside0.mk A370
               clear A370
               replace H := Option.bind_eq_some_iff.mp H
               obtain ⟨t109, A380, H⟩ := H
               replace H : (if x12_2.length < 2513169434916 then (tripartiteref06_Of.l0 kj27 a0 a1 a2 l3 l4 (x12_2 ++ [(⟨(decide (x16_20 > 0)), (⟨x13_2, x18_27⟩ : S79), (⟨x14_2, t108⟩ : S79), (⟨x15_2, t109⟩ : S79)⟩ : S81)]) x18_27 t108 t109) else (none)) = some (r1, r2) := H
               have A38 := Aside0.mk A380
               clear A380
               by_cases c39 : x12_2.length < 2513169434916
               ·rw [if_pos c39] at H
                have LMc39 := Aside0.mk c39
                clear c39
                obtain ⟨y110, hy110⟩ : ∃ y_ : List (S81), y_ = (x12_2 ++ [(⟨(decide (x16_20 > 0)), (⟨x13_2, x18_27⟩ : S79), (⟨x14_2, t108⟩ : S79), (⟨x15_2, t109⟩ : S79)⟩ : S81)]) := ⟨_, rfl⟩
                replace H : (tripartiteref06_Of.l0 kj27 a0 a1 a2 l3 l4 y110 x18_27 t108 t109) = some (r1, r2) := by first | (rw [hy110]; with_reducible exact H) | (have H2_ := (Option.bind_some _ _).symm.trans H; rw [hy110]; with_reducible exact H2_) | (have H2_ := (Option.bind_some _ _).symm.trans H; with_reducible exact H2_) | with_reducible exact H | (rw [hy110]; exact H) | exact H
                have Ny110 := Aside0.mk hy110
                clear hy110
                have H' := Aside0.mk H
                clear H
                have hcz40_0 : wc.cell? ⟨gb105, 0, none⟩ = some (.bool (decide (x16_20 > 0))) := (blk_cell BK105.out 0).trans rfl
                have hcz40_1 : wc.cell? ⟨gb105, 1, none⟩ = some (.int .i64 x13_2) := (blk_cell BK105.out 1).trans rfl
                have hcz40_2 : wc.cell? ⟨gb105, 2, none⟩ = some (.int .i64 (wrap64 (x13_2 + x16_20))) := (blk_cell BK105.out 2).trans rfl
                have hcz40_3 : wc.cell? ⟨gb105, 3, none⟩ = some (.int .i64 x14_2) := (blk_cell BK105.out 3).trans rfl
                have hcz40_4 : wc.cell? ⟨gb105, 4, none⟩ = some (.int .i64 (wrap64 (x14_2 + x16_20))) := (blk_cell BK105.out 4).trans rfl
                have hcz40_5 : wc.cell? ⟨gb105, 5, none⟩ = some (.int .i64 x15_2) := (blk_cell BK105.out 5).trans rfl
                have hcz40_6 : wc.cell? ⟨gb105, 6, none⟩ = some (.int .i64 (wrap64 (x15_2 + x16_20))) := (blk_cell BK105.out 6).trans rfl
                have hfz40_0 := blk_frozen BK105.out 0
                have hfz40_1 := blk_frozen BK105.out 1
                have hfz40_2 := blk_frozen BK105.out 2
                have hfz40_3 := blk_frozen BK105.out 3
                have hfz40_4 := blk_frozen BK105.out 4
                have hfz40_5 := blk_frozen BK105.out 5
                have hfz40_6 := blk_frozen BK105.out 6
                go_wp2_with fail
                have BK2 := Aside0.mk (blk_put (blk_put (blk_put BK105.out 2 (.int .i64 a0) rfl) 4 (.int .i64 a1) rfl) 6 (.int .i64 a2) rfl)
                have HB2 := Aside0.mk (below_set (j := 6) (v := .int .i64 a2) (below_set (j := 4) (v := .int .i64 a1) (below_set (j := 2) (v := .int .i64 a0) HB.out GE105.out) GE105.out) GE105.out)
                have HO2 := Aside0.mk (Kd.R_far (p := ⟨gb105, 6, none⟩) (Kd.R_far (p := ⟨gb105, 4, none⟩) (Kd.R_far (p := ⟨gb105, 2, none⟩) HO_12.out (fun _ hk => hk) (.int .i64 a0)) (fun _ hk => hk) (.int .i64 a1)) (fun _ hk => hk) (.int .i64 a2))
                generalize (((wc.setCell ⟨gb105, 2, none⟩ (.int .i64 a0)).setCell ⟨gb105, 4, none⟩ (.int .i64 a1)).setCell ⟨gb105, 6, none⟩ (.int .i64 a2)) = W2 at BK2 HB2 HO2 ⊢
                clear BK105 HB HO_12 hcz40_0 hfz40_0 hcz40_1 hfz40_1 hcz40_2 hfz40_2 hcz40_3 hfz40_3 hcz40_4 hfz40_4 hcz40_5 hfz40_5 hcz40_6 hfz40_6
                refine (tripartiteref06_at.calls kj27 A3 c3 l3 x18_27 t108 W2 (Kd.C_below HR3.out HB2.out) HC3.out A37.out).mono ?_
                rintro e w' ⟨rfl, ⟨nd, rfl⟩⟩
                have BK3 := Aside0.mk (blk_drewN BK2.out nd)
                have HB3 := Aside0.mk (pw_below_drewN HB2.out nd)
                have HO3 := Aside0.mk (Kd.R_drewN HO2.out nd)
                generalize W2.drewN nd = W3 at BK3 HB3 HO3 ⊢
                clear BK2 HB2 HO2
                go_wp2_with fail
                refine (tripartiteref06_at.calls kj27 A4 c4 l4 x18_27 t109 W3 (Kd.C_below HR4.out HB3.out) HC4.out A38.out).mono ?_
                rintro e w' ⟨rfl, ⟨nd, rfl⟩⟩
                have BK4 := Aside0.mk (blk_drewN BK3.out nd)
                have HB4 := Aside0.mk (pw_below_drewN HB3.out nd)
                have HO4 := Aside0.mk (Kd.R_drewN HO3.out nd)
                generalize W3.drewN nd = W4 at BK4 HB4 HO4 ⊢
                clear BK3 HB3 HO3
                have hc0 : W4.cell? ⟨gb105, 0, none⟩ = some (.bool (decide (x16_20 > 0))) := (blk_cell BK4.out 0).trans rfl
                have hc1 : W4.cell? ⟨gb105, 1, none⟩ = some (.int .i64 x13_2) := (blk_cell BK4.out 1).trans rfl
                have hc2 : W4.cell? ⟨gb105, 2, none⟩ = some (.int .i64 a0) := (blk_cell BK4.out 2).trans rfl
                have hc3 : W4.cell? ⟨gb105, 3, none⟩ = some (.int .i64 x14_2) := (blk_cell BK4.out 3).trans rfl
                have hc4 : W4.cell? ⟨gb105, 4, none⟩ = some (.int .i64 a1) := (blk_cell BK4.out 4).trans rfl
                have hc5 : W4.cell? ⟨gb105, 5, none⟩ = some (.int .i64 x15_2) := (blk_cell BK4.out 5).trans rfl
                have hc6 : W4.cell? ⟨gb105, 6, none⟩ = some (.int .i64 a2) := (blk_cell BK4.out 6).trans rfl
                have hf0 := blk_frozen BK4.out 0
                have hf1 := blk_frozen BK4.out 1
                have hf2 := blk_frozen BK4.out 2
                have hf3 := blk_frozen BK4.out 3
                have hf4 := blk_frozen BK4.out 4
                have hf5 := blk_frozen BK4.out 5
                have hf6 := blk_frozen BK4.out 6
                have BK5 := Aside0.mk (blk_put (blk_put (blk_put BK4.out 2 (.int .i64 x18_27) rfl) 4 (.int .i64 t108) rfl) 6 (.int .i64 t109) rfl)
                have HB5 := Aside0.mk (below_set (j := 6) (v := .int .i64 t109) (below_set (j := 4) (v := .int .i64 t108) (below_set (j := 2) (v := .int .i64 x18_27) HB4.out GE105.out) GE105.out) GE105.out)
                have HO5 := Aside0.mk (Kd.R_far (p := ⟨gb105, 6, none⟩) (Kd.R_far (p := ⟨gb105, 4, none⟩) (Kd.R_far (p := ⟨gb105, 2, none⟩) HO4.out (fun _ hk => hk) (.int .i64 x18_27)) (fun _ hk => hk) (.int .i64 t108)) (fun _ hk => hk) (.int .i64 t109))
                go_wp2_with (first | ((with_reducible refine gate_builtin (b := .append) (xs := #[.tmp 150, .tmp 152]) rfl ?_); at_builtin; refine Kd.R_append k81 (w0 := w) w.heap.size rfl (.tmp 150) (.tmp 152) 70 81 (.agg #[(.bool false), (.int .i64 0), (.int .i64 0), (.int .i64 0), (.int .i64 0), (.int .i64 0), (.int .i64 0)]) 56 rfl Try.underlying70 info81 rfl (by decide) (by omega) u12 x12_2 (⟨(decide (x16_20 > 0)), (⟨x13_2, x18_27⟩ : S79), (⟨x14_2, t108⟩ : S79), (⟨x15_2, t109⟩ : S79)⟩ : S81) [.bool (decide (x16_20 > 0)), .int .i64 x13_2, .int .i64 x18_27, .int .i64 x14_2, .int .i64 t108, .int .i64 x15_2, .int .i64 t109] (fun k_ => k_ ≠ gb105) (fun _ => False) rfl (by first | (go_simp; done) | (go_simp; rfl)) ?aP (fun _ hk => hk.elim) ?aF ?aO ?aB ?aS ?aL ?_; (case aP => exact k81_mkM _ _ _ (⟨(decide (x16_20 > 0)), (⟨x13_2, x18_27⟩ : S79), (⟨x14_2, t108⟩ : S79), (⟨x15_2, t109⟩ : S79)⟩ : S81)); (case aB => exact HB5.out); (case aF => exact (fun k_ hk => Kd.freshB (g := gb105) (o := .cells #[.bool (decide (x16_20 > 0)), .int .i64 x13_2, .int .i64 x18_27, .int .i64 x14_2, .int .i64 t108, .int .i64 x15_2, .int .i64 t109] 81 (0, 0)) BK5.out k_ hk)); (case aO => exact HO5.out); (case aS => exact below_size HB5.out); (case aL => have := LMc39.out; omega); intro v6 w6 ho hb hg hat; rw [← Ny110.out] at ho; have BK6 := Aside0.mk (blk_grown (g := gb105) (o := .cells #[.bool (decide (x16_20 > 0)), .int .i64 x13_2, .int .i64 x18_27, .int .i64 x14_2, .int .i64 t108, .int .i64 x15_2, .int .i64 t109] 81 (0, 0)) BK5.out hg (Kd.R_away HO5.out (fun _ hk => hk))); have HB6 := Aside0.mk hb; have HO6 := Aside0.mk ho; clear ho hb hg hat; have gc0 : w6.cell? ⟨gb105, 0, none⟩ = some (.bool (decide (x16_20 > 0))) := (blk_cell BK6.out 0).trans rfl; have gc1 : w6.cell? ⟨gb105, 1, none⟩ = some (.int .i64 x13_2) := (blk_cell BK6.out 1).trans rfl; have gc2 : w6.cell? ⟨gb105, 2, none⟩ = some (.int .i64 x18_27) := (blk_cell BK6.out 2).trans rfl; have gc3 : w6.cell? ⟨gb105, 3, none⟩ = some (.int .i64 x14_2) := (blk_cell BK6.out 3).trans rfl; have gc4 : w6.cell? ⟨gb105, 4, none⟩ = some (.int .i64 t108) := (blk_cell BK6.out 4).trans rfl; have gc5 : w6.cell? ⟨gb105, 5, none⟩ = some (.int .i64 x15_2) := (blk_cell BK6.out 5).trans rfl; have gc6 : w6.cell? ⟨gb105, 6, none⟩ = some (.int .i64 t109) := (blk_cell BK6.out 6).trans rfl; have gf0 := blk_frozen BK6.out 0; have gf1 := blk_frozen BK6.out 1; have gf2 := blk_frozen BK6.out 2; have gf3 := blk_frozen BK6.out 3; have gf4 := blk_frozen BK6.out 4; have gf5 := blk_frozen BK6.out 5; have gf6 := blk_frozen BK6.out 6))
                go_quiet (fail)
                go_wp2_with fail
                go_roundg kj27
                case measure => have := HJ5.out; have := HK2.out; have := HJ16.out; have := HJ20.out; have := HJ27.out; omega
                case rel => exact ⟨(y110), (x18_27), (t108), (t109), (by first | rfl | (simp; done) | (simp [*]; done)), (by first | rfl | (simp; done) | (simp [*]; done)), (by first | rfl | (simp; done) | (simp [*]; done)), H', ⟨by have := HJ5.out; have := HK2.out; have := HJ16.out; have := HJ20.out; have := HJ27.out; omega⟩, ⟨by (with_reducible repeat (first | apply Kd.R_alloc | apply Kd.R_drewN | apply Kd.R_drew)); exact Kd.R_mono HO6.out (fun _ hk => trivial)⟩, ⟨by repeat (first | (with_reducible first | exact HB6.out | apply below_alloc | apply pw_below_drewN | apply below_drew1 | refine below_set ?_ GE105.out) | exact HB6.out)⟩⟩
               ·rw [if_neg c39] at H
                exact absurd H (by simp)
              ·rw [if_neg c36] at H
               have c36b0 : decide (x18_27 < a0) = false := decide_eq_false c36
               clear c36
               by_cases c43 : x12_2.length < 2513169434916
               ·rw [if_pos c43] at H
                have LMc43 := Aside0.mk c43
                clear c43
                obtain ⟨y113, hy113⟩ : ∃ y_ : List (S81), y_ = (x12_2 ++ [(⟨(decide (x16_20 > 0)), (⟨x13_2, a0⟩ : S79), (⟨x14_2, a1⟩ : S79), (⟨x15_2, a2⟩ : S79)⟩ : S81)]) := ⟨_, rfl⟩
                replace H : (tripartiteref06_Of.l0 kj27 a0 a1 a2 l3 l4 y113 a0 a1 a2) = some (r1, r2) := by first | (rw [hy113]; with_reducible exact H) | (have H2_ := (Option.bind_some _ _).symm.trans H; rw [hy113]; with_reducible exact H2_) | (have H2_ := (Option.bind_some _ _).symm.trans H; with_reducible exact H2_) | with_reducible exact H | (rw [hy113]; exact H) | exact H
                have Ny113 := Aside0.mk hy113
                clear hy113
                have H' := Aside0.mk H
                clear H
                have hcz44_0 : wc.cell? ⟨gb105, 0, none⟩ = some (.bool (decide (x16_20 > 0))) := (blk_cell BK105.out 0).trans rfl
                have hcz44_1 : wc.cell? ⟨gb105, 1, none⟩ = some (.int .i64 x13_2) := (blk_cell BK105.out 1).trans rfl
                have hcz44_2 : wc.cell? ⟨gb105, 2, none⟩ = some (.int .i64 (wrap64 (x13_2 + x16_20))) := (blk_cell BK105.out 2).trans rfl
                have hcz44_3 : wc.cell? ⟨gb105, 3, none⟩ = some (.int .i64 x14_2) := (blk_cell BK105.out 3).trans rfl
                have hcz44_4 : wc.cell? ⟨gb105, 4, none⟩ = some (.int .i64 (wrap64 (x14_2 + x16_20))) := (blk_cell BK105.out 4).trans rfl
                have hcz44_5 : wc.cell? ⟨gb105, 5, none⟩ = some (.int .i64 x15_2) := (blk_cell BK105.out 5).trans rfl
                have hcz44_6 : wc.cell? ⟨gb105, 6, none⟩ = some (.int .i64 (wrap64 (x15_2 + x16_20))) := (blk_cell BK105.out 6).trans rfl
                have hfz44_0 := blk_frozen BK105.out 0
                have hfz44_1 := blk_frozen BK105.out 1
                have hfz44_2 := blk_frozen BK105.out 2
                have hfz44_3 := blk_frozen BK105.out 3
                have hfz44_4 := blk_frozen BK105.out 4
                have hfz44_5 := blk_frozen BK105.out 5
                have hfz44_6 := blk_frozen BK105.out 6
                have BK5 := Aside0.mk (blk_put (blk_put (blk_put BK105.out 2 (.int .i64 a0) rfl) 4 (.int .i64 a1) rfl) 6 (.int .i64 a2) rfl)
                have HB5 := Aside0.mk (below_set (j := 6) (v := .int .i64 a2) (below_set (j := 4) (v := .int .i64 a1) (below_set (j := 2) (v := .int .i64 a0) HB.out GE105.out) GE105.out) GE105.out)
                have HO5 := Aside0.mk (Kd.R_far (p := ⟨gb105, 6, none⟩) (Kd.R_far (p := ⟨gb105, 4, none⟩) (Kd.R_far (p := ⟨gb105, 2, none⟩) HO_12.out (fun _ hk => hk) (.int .i64 a0)) (fun _ hk => hk) (.int .i64 a1)) (fun _ hk => hk) (.int .i64 a2))
                go_wp2_with (first | ((with_reducible refine gate_builtin (b := .append) (xs := #[.tmp 150, .tmp 152]) rfl ?_); at_builtin; refine Kd.R_append k81 (w0 := w) w.heap.size rfl (.tmp 150) (.tmp 152) 70 81 (.agg #[(.bool false), (.int .i64 0), (.int .i64 0), (.int .i64 0), (.int .i64 0), (.int .i64 0), (.int .i64 0)]) 56 rfl Try.underlying70 info81 rfl (by decide) (by omega) u12 x12_2 (⟨(decide (x16_20 > 0)), (⟨x13_2, a0⟩ : S79), (⟨x14_2, a1⟩ : S79), (⟨x15_2, a2⟩ : S79)⟩ : S81) [.bool (decide (x16_20 > 0)), .int .i64 x13_2, .int .i64 a0, .int .i64 x14_2, .int .i64 a1, .int .i64 x15_2, .int .i64 a2] (fun k_ => k_ ≠ gb105) (fun _ => False) rfl (by first | (go_simp; done) | (go_simp; rfl)) ?aP (fun _ hk => hk.elim) ?aF ?aO ?aB ?aS ?aL ?_; (case aP => exact k81_mkM _ _ _ (⟨(decide (x16_20 > 0)), (⟨x13_2, a0⟩ : S79), (⟨x14_2, a1⟩ : S79), (⟨x15_2, a2⟩ : S79)⟩ : S81)); (case aB => exact HB5.out); (case aF => exact (fun k_ hk => Kd.freshB (g := gb105) (o := .cells #[.bool (decide (x16_20 > 0)), .int .i64 x13_2, .int .i64 a0, .int .i64 x14_2, .int .i64 a1, .int .i64 x15_2, .int .i64 a2] 81 (0, 0)) BK5.out k_ hk)); (case aO => exact HO5.out); (case aS => exact below_size HB5.out); (case aL => have := LMc43.out; omega); intro v6 w6 ho hb hg hat; rw [← Ny113.out] at ho; have BK6 := Aside0.mk (blk_grown (g := gb105) (o := .cells #[.bool (decide (x16_20 > 0)), .int .i64 x13_2, .int .i64 a0, .int .i64 x14_2, .int .i64 a1, .int .i64 x15_2, .int .i64 a2] 81 (0, 0)) BK5.out hg (Kd.R_away HO5.out (fun _ hk => hk))); have HB6 := Aside0.mk hb; have HO6 := Aside0.mk ho; clear ho hb hg hat; have gc0 : w6.cell? ⟨gb105, 0, none⟩ = some (.bool (decide (x16_20 > 0))) := (blk_cell BK6.out 0).trans rfl; have gc1 : w6.cell? ⟨gb105, 1, none⟩ = some (.int .i64 x13_2) := (blk_cell BK6.out 1).trans rfl; have gc2 : w6.cell? ⟨gb105, 2, none⟩ = some (.int .i64 a0) := (blk_cell BK6.out 2).trans rfl; have gc3 : w6.cell? ⟨gb105, 3, none⟩ = some (.int .i64 x14_2) := (blk_cell BK6.out 3).trans rfl; have gc4 : w6.cell? ⟨gb105, 4, none⟩ = some (.int .i64 a1) := (blk_cell BK6.out 4).trans rfl; have gc5 : w6.cell? ⟨gb105, 5, none⟩ = some (.int .i64 x15_2) := (blk_cell BK6.out 5).trans rfl; have gc6 : w6.cell? ⟨gb105, 6, none⟩ = some (.int .i64 a2) := (blk_cell BK6.out 6).trans rfl; have gf0 := blk_frozen BK6.out 0; have gf1 := blk_frozen BK6.out 1; have gf2 := blk_frozen BK6.out 2; have gf3 := blk_frozen BK6.out 3; have gf4 := blk_frozen BK6.out 4; have gf5 := blk_frozen BK6.out 5; have gf6 := blk_frozen BK6.out 6))
                go_quiet (fail)
                go_wp2_with fail
                go_roundg kj27
                case measure => have := HJ5.out; have := HK2.out; have := HJ16.out; have := HJ20.out; have := HJ27.out; omega
                case rel => exact ⟨(y113), (a0), (a1), (a2), (by first | rfl | (simp; done) | (simp [*]; done)), (by first | rfl | (simp; done) | (simp [*]; done)), (by first | rfl | (simp; done) | (simp [*]; done)), H', ⟨by have := HJ5.out; have := HK2.out; have := HJ16.out; have := HJ20.out; have := HJ27.out; omega⟩, ⟨by (with_reducible repeat (first | apply Kd.R_alloc | apply Kd.R_drewN | apply Kd.R_drew)); exact Kd.R_mono HO6.out (fun _ hk => trivial)⟩, ⟨by repeat (first | (with_reducible first | exact HB6.out | apply below_alloc | apply pw_below_drewN | apply below_drew1 | refine below_set ?_ GE105.out) | exact HB6.out)⟩⟩
               ·rw [if_neg c43] at H
                exact absurd H (by simp)
           ·rw [if_neg c27] at H
            have c27b0 : (x16_20 == 0) = false := beq_eq_false_iff_ne.mpr c27
            have c27b1 : (x16_20 != 0) = true := bne_iff_ne.mpr c27
            by_cases c47 : x12_2.length < 2513169434916
            ·rw [if_pos c47] at H
             have LMc47 := Aside0.mk c47
             clear c47
             obtain ⟨y116, hy116⟩ : ∃ y_ : List (S81), y_ = (x12_2 ++ [(⟨decide (x16_20 > 0), (⟨x13_2, wrap64 (x13_2 + x16_20)⟩ : S79), (⟨x14_2, wrap64 (x14_2 + x16_20)⟩ : S79), (⟨x15_2, wrap64 (x15_2 + x16_20)⟩ : S79)⟩ : S81)]) := ⟨_, rfl⟩
             replace H : (tripartiteref06_Of.l0 kj20 a0 a1 a2 l3 l4 y116 (wrap64 (x13_2 + x16_20)) (wrap64 (x14_2 + x16_20)) (wrap64 (x15_2 + x16_20))) = some (r1, r2) := by first | (rw [hy116]; with_reducible exact H) | (have H2_ := (Option.bind_some _ _).symm.trans H; rw [hy116]; with_reducible exact H2_) | (have H2_ := (Option.bind_some _ _).symm.trans H; with_reducible exact H2_) | with_reducible exact H | (rw [hy116]; exact H) | exact H
             have Ny116 := Aside0.mk hy116
             clear hy116
             have H' := Aside0.mk H
             clear H
             go_wp2_with (first | ((with_reducible refine gate_dst (N := 17) rfl ?_); refine box_event ?hg (N := 17) ?hd (cs := #[.bool false, .int .i64 0, .int .i64 0, .int .i64 0, .int .i64 0, .int .i64 0, .int .i64 0]) (t := 81) ?hr ?_; (case hd => rfl); (case hg => rfl); (case hr => first | (go_simp; done) | (go_simp; rfl)); intro gb105 hg w48 hbox hb; have n0_ := Aside0.mk (Kd.R_below (Kd.R_elderB (by (with_reducible repeat (first | apply Kd.R_alloc | apply Kd.R_drewN | apply Kd.R_drew)); exact HO_12.out) gb105 (Nat.le_of_eq hg.symm)) hb); have n1_ := Aside0.mk (below_step (by repeat (first | (with_reducible first | exact HB.out | apply below_alloc | apply pw_below_drewN | apply below_drew1) | exact HB.out)) hb); have n2_ := Aside0.mk (hbox); have n3_ := Aside0.mk ((by rw [hg]; exact (below_size (by repeat (first | (with_reducible first | exact HB.out | apply below_alloc | apply pw_below_drewN | apply below_drew1) | exact HB.out))) : w.heap.size ≤ gb105)); have n4_ := Aside0.mk ((by rw [hg]; exact (below_size (by repeat (first | (with_reducible first | exact HB.out | apply below_alloc | apply pw_below_drewN | apply below_drew1) | exact HB.out))) : w.heap.size ≤ gb105)); clear HO_12; clear HB; have HO_12 := n0_; have HB := n1_; have BK105 := n2_; have GW105 := n3_; have GE105 := n4_; clear n0_ n1_ n2_ n3_ n4_; clear hb hbox hg; have hcz49_0 : w48.cell? ⟨gb105, 0, none⟩ = some (.bool false) := (blk_cell BK105.out 0).trans rfl; have hcz49_1 : w48.cell? ⟨gb105, 1, none⟩ = some (.int .i64 0) := (blk_cell BK105.out 1).trans rfl; have hcz49_2 : w48.cell? ⟨gb105, 2, none⟩ = some (.int .i64 0) := (blk_cell BK105.out 2).trans rfl; have hcz49_3 : w48.cell? ⟨gb105, 3, none⟩ = some (.int .i64 0) := (blk_cell BK105.out 3).trans rfl; have hcz49_4 : w48.cell? ⟨gb105, 4, none⟩ = some (.int .i64 0) := (blk_cell BK105.out 4).trans rfl; have hcz49_5 : w48.cell? ⟨gb105, 5, none⟩ = some (.int .i64 0) := (blk_cell BK105.out 5).trans rfl; have hcz49_6 : w48.cell? ⟨gb105, 6, none⟩ = some (.int .i64 0) := (blk_cell BK105.out 6).trans rfl; have hfz49_0 := blk_frozen BK105.out 0; have hfz49_1 := blk_frozen BK105.out 1; have hfz49_2 := blk_frozen BK105.out 2; have hfz49_3 := blk_frozen BK105.out 3; have hfz49_4 := blk_frozen BK105.out 4; have hfz49_5 := blk_frozen BK105.out 5; have hfz49_6 := blk_frozen BK105.out 6) | ((with_reducible refine gate_builtin (b := .append) (xs := #[.tmp 150, .tmp 152]) rfl ?_); at_builtin; refine Kd.R_append k81 (w0 := w) w.heap.size rfl (.tmp 150) (.tmp 152) 70 81 (.agg #[(.bool false), (.int .i64 0), (.int .i64 0), (.int .i64 0), (.int .i64 0), (.int .i64 0), (.int .i64 0)]) 56 rfl Try.underlying70 info81 rfl (by decide) (by omega) u12 x12_2 (⟨decide (x16_20 > 0), (⟨x13_2, wrap64 (x13_2 + x16_20)⟩ : S79), (⟨x14_2, wrap64 (x14_2 + x16_20)⟩ : S79), (⟨x15_2, wrap64 (x15_2 + x16_20)⟩ : S79)⟩ : S81) [.bool (decide (x16_20 > 0)), .int .i64 x13_2, .int .i64 (wrap64 (x13_2 + x16_20)), .int .i64 x14_2, .int .i64 (wrap64 (x14_2 + x16_20)), .int .i64 x15_2, .int .i64 (wrap64 (x15_2 + x16_20))] (fun k_ => k_ ≠ gb105) (fun _ => False) rfl (by first | (go_simp; done) | (go_simp; rfl)) ?aP (fun _ hk => hk.elim) ?aF ?aO ?aB ?aS ?aL ?_; (case aP => exact k81_mkM _ _ _ (⟨decide (x16_20 > 0), (⟨x13_2, wrap64 (x13_2 + x16_20)⟩ : S79), (⟨x14_2, wrap64 (x14_2 + x16_20)⟩ : S79), (⟨x15_2, wrap64 (x15_2 + x16_20)⟩ : S79)⟩ : S81)); (case aB => exact (by repeat (first | (with_reducible first | exact HB.out | apply below_alloc | apply pw_below_drewN | apply below_drew1 | refine below_set ?_ GE105.out) | exact HB.out))); (case aF => exact (fun k_ hk => Kd.freshB (g := gb105) (o := .cells #[.bool (decide (x16_20 > 0)), .int .i64 x13_2, .int .i64 (wrap64 (x13_2 + x16_20)), .int .i64 x14_2, .int .i64 (wrap64 (x14_2 + x16_20)), .int .i64 x15_2, .int .i64 (wrap64 (x15_2 + x16_20))] 81 (0, 0)) (by (with_reducible repeat (first | refine blk_drewN ?_ _ | refine blk_drew ?_ | refine blk_alloc ?_ _)); refine blk_put (cs := #[.bool (decide (x16_20 > 0)), .int .i64 x13_2, .int .i64 (wrap64 (x13_2 + x16_20)), .int .i64 x14_2, .int .i64 (wrap64 (x14_2 + x16_20)), .int .i64 x15_2, .int .i64 0]) ?_ 6 _ rfl; (with_reducible repeat (first | refine blk_drewN ?_ _ | refine blk_drew ?_ | refine blk_alloc ?_ _)); refine blk_put (cs := #[.bool (decide (x16_20 > 0)), .int .i64 x13_2, .int .i64 (wrap64 (x13_2 + x16_20)), .int .i64 x14_2, .int .i64 (wrap64 (x14_2 + x16_20)), .int .i64 0, .int .i64 0]) ?_ 5 _ rfl; (with_reducible repeat (first | refine blk_drewN ?_ _ | refine blk_drew ?_ | refine blk_alloc ?_ _)); refine blk_put (cs := #[.bool (decide (x16_20 > 0)), .int .i64 x13_2, .int .i64 (wrap64 (x13_2 + x16_20)), .int .i64 x14_2, .int .i64 0, .int .i64 0, .int .i64 0]) ?_ 4 _ rfl; (with_reducible repeat (first | refine blk_drewN ?_ _ | refine blk_drew ?_ | refine blk_alloc ?_ _)); refine blk_put (cs := #[.bool (decide (x16_20 > 0)), .int .i64 x13_2, .int .i64 (wrap64 (x13_2 + x16_20)), .int .i64 0, .int .i64 0, .int .i64 0, .int .i64 0]) ?_ 3 _ rfl; (with_reducible repeat (first | refine blk_drewN ?_ _ | refine blk_drew ?_ | refine blk_alloc ?_ _)); refine blk_put (cs := #[.bool (decide (x16_20 > 0)), .int .i64 x13_2, .int .i64 0, .int .i64 0, .int .i64 0, .int .i64 0, .int .i64 0]) ?_ 2 _ rfl; (with_reducible repeat (first | refine blk_drewN ?_ _ | refine blk_drew ?_ | refine blk_alloc ?_ _)); refine blk_put (cs := #[.bool (decide (x16_20 > 0)), .int .i64 0, .int .i64 0, .int .i64 0, .int .i64 0, .int .i64 0, .int .i64 0]) ?_ 1 _ rfl; (with_reducible repeat (first | refine blk_drewN ?_ _ | refine blk_drew ?_ | refine blk_alloc ?_ _)); refine blk_put (cs := #[.bool false, .int .i64 0, .int .i64 0, .int .i64 0, .int .i64 0, .int .i64 0, .int .i64 0]) ?_ 0 _ rfl; (with_reducible repeat (first | refine blk_drewN ?_ _ | refine blk_drew ?_ | refine blk_alloc ?_ _)); exact BK105.out) k_ hk)); (case aO => exact (by (with_reducible repeat (first | apply Kd.R_alloc | apply Kd.R_drewN | apply Kd.R_drew)); exact Kd.R_mono (Kd.R_far (p := ⟨gb105, 6, none⟩) (Kd.R_far (p := ⟨gb105, 5, none⟩) (Kd.R_far (p := ⟨gb105, 4, none⟩) (Kd.R_far (p := ⟨gb105, 3, none⟩) (Kd.R_far (p := ⟨gb105, 2, none⟩) (Kd.R_far (p := ⟨gb105, 1, none⟩) (Kd.R_far (p := ⟨gb105, 0, none⟩) (Kd.R_mono HO_12.out (fun k_ hk => (⟨hk, hk.2⟩ : _ ∧ k_ ≠ gb105))) (fun _ hk => hk.2) (.bool (decide (x16_20 > 0)))) (fun _ hk => hk.2) (.int .i64 x13_2)) (fun _ hk => hk.2) (.int .i64 (wrap64 (x13_2 + x16_20)))) (fun _ hk => hk.2) (.int .i64 x14_2)) (fun _ hk => hk.2) (.int .i64 (wrap64 (x14_2 + x16_20)))) (fun _ hk => hk.2) (.int .i64 x15_2)) (fun _ hk => hk.2) (.int .i64 (wrap64 (x15_2 + x16_20)))) (fun _ hk => hk.1.2))); (case aS => exact (below_size (by repeat (first | (with_reducible first | exact HB.out | apply below_alloc | apply pw_below_drewN | apply below_drew1 | refine below_set ?_ GE105.out) | exact HB.out)))); (case aL => have := LMc47.out; omega); intro v117 w50 ho hb hg hat; rw [← Ny116.out] at ho; have n0_ := Aside0.mk (blk_grown (g := gb105) (o := .cells #[.bool (decide (x16_20 > 0)), .int .i64 x13_2, .int .i64 (wrap64 (x13_2 + x16_20)), .int .i64 x14_2, .int .i64 (wrap64 (x14_2 + x16_20)), .int .i64 x15_2, .int .i64 (wrap64 (x15_2 + x16_20))] 81 (0, 0)) (by (with_reducible repeat (first | refine blk_drewN ?_ _ | refine blk_drew ?_ | refine blk_alloc ?_ _)); refine blk_put (cs := #[.bool (decide (x16_20 > 0)), .int .i64 x13_2, .int .i64 (wrap64 (x13_2 + x16_20)), .int .i64 x14_2, .int .i64 (wrap64 (x14_2 + x16_20)), .int .i64 x15_2, .int .i64 0]) ?_ 6 _ rfl; (with_reducible repeat (first | refine blk_drewN ?_ _ | refine blk_drew ?_ | refine blk_alloc ?_ _)); refine blk_put (cs := #[.bool (decide (x16_20 > 0)), .int .i64 x13_2, .int .i64 (wrap64 (x13_2 + x16_20)), .int .i64 x14_2, .int .i64 (wrap64 (x14_2 + x16_20)), .int .i64 0, .int .i64 0]) ?_ 5 _ rfl; (with_reducible repeat (first | refine blk_drewN ?_ _ | refine blk_drew ?_ | refine blk_alloc ?_ _)); refine blk_put (cs := #[.bool (decide (x16_20 > 0)), .int .i64 x13_2, .int .i64 (wrap64 (x13_2 + x16_20)), .int .i64 x14_2, .int .i64 0, .int .i64 0, .int .i64 0]) ?_ 4 _ rfl; (with_reducible repeat (first | refine blk_drewN ?_ _ | refine blk_drew ?_ | refine blk_alloc ?_ _)); refine blk_put (cs := #[.bool (decide (x16_20 > 0)), .int .i64 x13_2, .int .i64 (wrap64 (x13_2 + x16_20)), .int .i64 0, .int .i64 0, .int .i64 0, .int .i64 0]) ?_ 3 _ rfl; (with_reducible repeat (first | refine blk_drewN ?_ _ | refine blk_drew ?_ | refine blk_alloc ?_ _)); refine blk_put (cs := #[.bool (decide (x16_20 > 0)), .int .i64 x13_2, .int .i64 0, .int .i64 0, .int .i64 0, .int .i64 0, .int .i64 0]) ?_ 2 _ rfl; (with_reducible repeat (first | refine blk_drewN ?_ _ | refine blk_drew ?_ | refine blk_alloc ?_ _)); refine blk_put (cs := #[.bool (decide (x16_20 > 0)), .int .i64 0, .int .i64 0, .int .i64 0, .int .i64 0, .int .i64 0, .int .i64 0]) ?_ 1 _ rfl; (with_reducible repeat (first | refine blk_drewN ?_ _ | refine blk_drew ?_ | refine blk_alloc ?_ _)); refine blk_put (cs := #[.bool false, .int .i64 0, .int .i64 0, .int .i64 0, .int .i64 0, .int .i64 0, .int .i64 0]) ?_ 0 _ rfl; (with_reducible repeat (first | refine blk_drewN ?_ _ | refine blk_drew ?_ | refine blk_alloc ?_ _)); exact BK105.out) hg (Kd.R_away HO_12.out (fun _ hk => hk.2))); have n1_ := Aside0.mk (hb); have n2_ := Aside0.mk (ho); clear BK105; clear HB; clear HO_12; have BK105 := n0_; have HB := n1_; have HO118 := n2_; clear n0_ n1_ n2_; clear ho hb hg hat; have hcz51_0 : w50.cell? ⟨gb105, 0, none⟩ = some (.bool (decide (x16_20 > 0))) := (blk_cell BK105.out 0).trans rfl; have hcz51_1 : w50.cell? ⟨gb105, 1, none⟩ = some (.int .i64 x13_2) := (blk_cell BK105.out 1).trans rfl; have hcz51_2 : w50.cell? ⟨gb105, 2, none⟩ = some (.int .i64 (wrap64 (x13_2 + x16_20))) := (blk_cell BK105.out 2).trans rfl; have hcz51_3 : w50.cell? ⟨gb105, 3, none⟩ = some (.int .i64 x14_2) := (blk_cell BK105.out 3).trans rfl; have hcz51_4 : w50.cell? ⟨gb105, 4, none⟩ = some (.int .i64 (wrap64 (x14_2 + x16_20))) := (blk_cell BK105.out 4).trans rfl; have hcz51_5 : w50.cell? ⟨gb105, 5, none⟩ = some (.int .i64 x15_2) := (blk_cell BK105.out 5).trans rfl; have hcz51_6 : w50.cell? ⟨gb105, 6, none⟩ = some (.int .i64 (wrap64 (x15_2 + x16_20))) := (blk_cell BK105.out 6).trans rfl; have hfz51_0 := blk_frozen BK105.out 0; have hfz51_1 := blk_frozen BK105.out 1; have hfz51_2 := blk_frozen BK105.out 2; have hfz51_3 := blk_frozen BK105.out 3; have hfz51_4 := blk_frozen BK105.out 4; have hfz51_5 := blk_frozen BK105.out 5; have hfz51_6 := blk_frozen BK105.out 6))
             repeat (go_quiet (first | ((with_reducible refine gate_dst (N := 17) rfl ?_); refine box_event ?hg (N := 17) ?hd (cs := #[.bool false, .int .i64 0, .int .i64 0, .int .i64 0, .int .i64 0, .int .i64 0, .int .i64 0]) (t := 81) ?hr ?_; (case hd => rfl); (case hg => rfl); (case hr => first | (go_simp; done) | (go_simp; rfl)); intro gb105 hg w48 hbox hb; have n0_ := Aside0.mk (Kd.R_below (Kd.R_elderB (by (with_reducible repeat (first | apply Kd.R_alloc | apply Kd.R_drewN | apply Kd.R_drew)); exact HO_12.out) gb105 (Nat.le_of_eq hg.symm)) hb); have n1_ := Aside0.mk (below_step (by repeat (first | (with_reducible first | exact HB.out | apply below_alloc | apply pw_below_drewN | apply below_drew1) | exact HB.out)) hb); have n2_ := Aside0.mk (hbox); have n3_ := Aside0.mk ((by rw [hg]; exact (below_size (by repeat (first | (with_reducible first | exact HB.out | apply below_alloc | apply pw_below_drewN | apply below_drew1) | exact HB.out))) : w.heap.size ≤ gb105)); have n4_ := Aside0.mk ((by rw [hg]; exact (below_size (by repeat (first | (with_reducible first | exact HB.out | apply below_alloc | apply pw_below_drewN | apply below_drew1) | exact HB.out))) : w.heap.size ≤ gb105)); clear HO_12; clear HB; have HO_12 := n0_; have HB := n1_; have BK105 := n2_; have GW105 := n3_; have GE105 := n4_; clear n0_ n1_ n2_ n3_ n4_; clear hb hbox hg; have hcz49_0 : w48.cell? ⟨gb105, 0, none⟩ = some (.bool false) := (blk_cell BK105.out 0).trans rfl; have hcz49_1 : w48.cell? ⟨gb105, 1, none⟩ = some (.int .i64 0) := (blk_cell BK105.out 1).trans rfl; have hcz49_2 : w48.cell? ⟨gb105, 2, none⟩ = some (.int .i64 0) := (blk_cell BK105.out 2).trans rfl; have hcz49_3 : w48.cell? ⟨gb105, 3, none⟩ = some (.int .i64 0) := (blk_cell BK105.out 3).trans rfl; have hcz49_4 : w48.cell? ⟨gb105, 4, none⟩ = some (.int .i64 0) := (blk_cell BK105.out 4).trans rfl; have hcz49_5 : w48.cell? ⟨gb105, 5, none⟩ = some (.int .i64 0) := (blk_cell BK105.out 5).trans rfl; have hcz49_6 : w48.cell? ⟨gb105, 6, none⟩ = some (.int .i64 0) := (blk_cell BK105.out 6).trans rfl; have hfz49_0 := blk_frozen BK105.out 0; have hfz49_1 := blk_frozen BK105.out 1; have hfz49_2 := blk_frozen BK105.out 2; have hfz49_3 := blk_frozen BK105.out 3; have hfz49_4 := blk_frozen BK105.out 4; have hfz49_5 := blk_frozen BK105.out 5; have hfz49_6 := blk_frozen BK105.out 6) | ((with_reducible refine gate_builtin (b := .append) (xs := #[.tmp 150, .tmp 152]) rfl ?_); at_builtin; refine Kd.R_append k81 (w0 := w) w.heap.size rfl (.tmp 150) (.tmp 152) 70 81 (.agg #[(.bool false), (.int .i64 0), (.int .i64 0), (.int .i64 0), (.int .i64 0), (.int .i64 0), (.int .i64 0)]) 56 rfl Try.underlying70 info81 rfl (by decide) (by omega) u12 x12_2 (⟨decide (x16_20 > 0), (⟨x13_2, wrap64 (x13_2 + x16_20)⟩ : S79), (⟨x14_2, wrap64 (x14_2 + x16_20)⟩ : S79), (⟨x15_2, wrap64 (x15_2 + x16_20)⟩ : S79)⟩ : S81) [.bool (decide (x16_20 > 0)), .int .i64 x13_2, .int .i64 (wrap64 (x13_2 + x16_20)), .int .i64 x14_2, .int .i64 (wrap64 (x14_2 + x16_20)), .int .i64 x15_2, .int .i64 (wrap64 (x15_2 + x16_20))] (fun k_ => k_ ≠ gb105) (fun _ => False) rfl (by first | (go_simp; done) | (go_simp; rfl)) ?aP (fun _ hk => hk.elim) ?aF ?aO ?aB ?aS ?aL ?_; (case aP => exact k81_mkM _ _ _ (⟨decide (x16_20 > 0), (⟨x13_2, wrap64 (x13_2 + x16_20)⟩ : S79), (⟨x14_2, wrap64 (x14_2 + x16_20)⟩ : S79), (⟨x15_2, wrap64 (x15_2 + x16_20)⟩ : S79)⟩ : S81)); (case aB => exact (by repeat (first | (with_reducible first | exact HB.out | apply below_alloc | apply pw_below_drewN | apply below_drew1 | refine below_set ?_ GE105.out) | exact HB.out))); (case aF => exact (fun k_ hk => Kd.freshB (g := gb105) (o := .cells #[.bool (decide (x16_20 > 0)), .int .i64 x13_2, .int .i64 (wrap64 (x13_2 + x16_20)), .int .i64 x14_2, .int .i64 (wrap64 (x14_2 + x16_20)), .int .i64 x15_2, .int .i64 (wrap64 (x15_2 + x16_20))] 81 (0, 0)) (by (with_reducible repeat (first | refine blk_drewN ?_ _ | refine blk_drew ?_ | refine blk_alloc ?_ _)); refine blk_put (cs := #[.bool (decide (x16_20 > 0)), .int .i64 x13_2, .int .i64 (wrap64 (x13_2 + x16_20)), .int .i64 x14_2, .int .i64 (wrap64 (x14_2 + x16_20)), .int .i64 x15_2, .int .i64 0]) ?_ 6 _ rfl; (with_reducible repeat (first | refine blk_drewN ?_ _ | refine blk_drew ?_ | refine blk_alloc ?_ _)); refine blk_put (cs := #[.bool (decide (x16_20 > 0)), .int .i64 x13_2, .int .i64 (wrap64 (x13_2 + x16_20)), .int .i64 x14_2, .int .i64 (wrap64 (x14_2 + x16_20)), .int .i64 0, .int .i64 0]) ?_ 5 _ rfl; (with_reducible repeat (first | refine blk_drewN ?_ _ | refine blk_drew ?_ | refine blk_alloc ?_ _)); refine blk_put (cs := #[.bool (decide (x16_20 > 0)), .int .i64 x13_2, .int .i64 (wrap64 (x13_2 + x16_20)), .int .i64 x14_2, .int .i64 0, .int .i64 0, .int .i64 0]) ?_ 4 _ rfl; (with_reducible repeat (first | refine blk_drewN ?_ _ | refine blk_drew ?_ | refine blk_alloc ?_ _)); refine blk_put (cs := #[.bool (decide (x16_20 > 0)), .int .i64 x13_2, .int .i64 (wrap64 (x13_2 + x16_20)), .int .i64 0, .int .i64 0, .int .i64 0, .int .i64 0]) ?_ 3 _ rfl; (with_reducible repeat (first | refine blk_drewN ?_ _ | refine blk_drew ?_ | refine blk_alloc ?_ _)); refine blk_put (cs := #[.bool (decide (x16_20 > 0)), .int .i64 x13_2, .int .i64 0, .int .i64 0, .int .i64 0, .int .i64 0, .int .i64 0]) ?_ 2 _ rfl; (with_reducible repeat (first | refine blk_drewN ?_ _ | refine blk_drew ?_ | refine blk_alloc ?_ _)); refine blk_put (cs := #[.bool (decide (x16_20 > 0)), .int .i64 0, .int .i64 0, .int .i64 0, .int .i64 0, .int .i64 0, .int .i64 0]) ?_ 1 _ rfl; (with_reducible repeat (first | refine blk_drewN ?_ _ | refine blk_drew ?_ | refine blk_alloc ?_ _)); refine blk_put (cs := #[.bool false, .int .i64 0, .int .i64 0, .int .i64 0, .int .i64 0, .int .i64 0, .int .i64 0]) ?_ 0 _ rfl; (with_reducible repeat (first | refine blk_drewN ?_ _ | refine blk_drew ?_ | refine blk_alloc ?_ _)); exact BK105.out) k_ hk)); (case aO => exact (by (with_reducible repeat (first | apply Kd.R_alloc | apply Kd.R_drewN | apply Kd.R_drew)); exact Kd.R_mono (Kd.R_far (p := ⟨gb105, 6, none⟩) (Kd.R_far (p := ⟨gb105, 5, none⟩) (Kd.R_far (p := ⟨gb105, 4, none⟩) (Kd.R_far (p := ⟨gb105, 3, none⟩) (Kd.R_far (p := ⟨gb105, 2, none⟩) (Kd.R_far (p := ⟨gb105, 1, none⟩) (Kd.R_far (p := ⟨gb105, 0, none⟩) (Kd.R_mono HO_12.out (fun k_ hk => (⟨hk, hk.2⟩ : _ ∧ k_ ≠ gb105))) (fun _ hk => hk.2) (.bool (decide (x16_20 > 0)))) (fun _ hk => hk.2) (.int .i64 x13_2)) (fun _ hk => hk.2) (.int .i64 (wrap64 (x13_2 + x16_20)))) (fun _ hk => hk.2) (.int .i64 x14_2)) (fun _ hk => hk.2) (.int .i64 (wrap64 (x14_2 + x16_20)))) (fun _ hk => hk.2) (.int .i64 x15_2)) (fun _ hk => hk.2) (.int .i64 (wrap64 (x15_2 + x16_20)))) (fun _ hk => hk.1.2))); (case aS => exact (below_size (by repeat (first | (with_reducible first | exact HB.out | apply below_alloc | apply pw_below_drewN | apply below_drew1 | refine below_set ?_ GE105.out) | exact HB.out)))); (case aL => have := LMc47.out; omega); intro v117 w50 ho hb hg hat; rw [← Ny116.out] at ho; have n0_ := Aside0.mk (blk_grown (g := gb105) (o := .cells #[.bool (decide (x16_20 > 0)), .int .i64 x13_2, .int .i64 (wrap64 (x13_2 + x16_20)), .int .i64 x14_2, .int .i64 (wrap64 (x14_2 + x16_20)), .int .i64 x15_2, .int .i64 (wrap64 (x15_2 + x16_20))] 81 (0, 0)) (by (with_reducible repeat (first | refine blk_drewN ?_ _ | refine blk_drew ?_ | refine blk_alloc ?_ _)); refine blk_put (cs := #[.bool (decide (x16_20 > 0)), .int .i64 x13_2, .int .i64 (wrap64 (x13_2 + x16_20)), .int .i64 x14_2, .int .i64 (wrap64 (x14_2 + x16_20)), .int .i64 x15_2, .int .i64 0]) ?_ 6 _ rfl; (with_reducible repeat (first | refine blk_drewN ?_ _ | refine blk_drew ?_ | refine blk_alloc ?_ _)); refine blk_put (cs := #[.bool (decide (x16_20 > 0)), .int .i64 x13_2, .int .i64 (wrap64 (x13_2 + x16_20)), .int .i64 x14_2, .int .i64 (wrap64 (x14_2 + x16_20)), .int .i64 0, .int .i64 0]) ?_ 5 _ rfl; (with_reducible repeat (first | refine blk_drewN ?_ _ | refine blk_drew ?_ | refine blk_alloc ?_ _)); refine blk_put (cs := #[.bool (decide (x16_20 > 0)), .int .i64 x13_2, .int .i64 (wrap64 (x13_2 + x16_20)), .int .i64 x14_2, .int .i64 0, .int .i64 0, .int .i64 0]) ?_ 4 _ rfl; (with_reducible repeat (first | refine blk_drewN ?_ _ | refine blk_drew ?_ | refine blk_alloc ?_ _)); refine blk_put (cs := #[.bool (decide (x16_20 > 0)), .int .i64 x13_2, .int .i64 (wrap64 (x13_2 + x16_20)), .int .i64 0, .int .i64 0, .int .i64 0, .int .i64 0]) ?_ 3 _ rfl; (with_reducible repeat (first | refine blk_drewN ?_ _ | refine blk_drew ?_ | refine blk_alloc ?_ _)); refine blk_put (cs := #[.bool (decide (x16_20 > 0)), .int .i64 x13_2, .int .i64 0, .int .i64 0, .int .i64 0, .int .i64 0, .int .i64 0]) ?_ 2 _ rfl; (with_reducible repeat (first | refine blk_drewN ?_ _ | refine blk_drew ?_ | refine blk_alloc ?_ _)); refine blk_put (cs := #[.bool (decide (x16_20 > 0)), .int .i64 0, .int .i64 0, .int .i64 0, .int .i64 0, .int .i64 0, .int .i64 0]) ?_ 1 _ rfl; (with_reducible repeat (first | refine blk_drewN ?_ _ | refine blk_drew ?_ | refine blk_alloc ?_ _)); refine blk_put (cs := #[.bool false, .int .i64 0, .int .i64 0, .int .i64 0, .int .i64 0, .int .i64 0, .int .i64 0]) ?_ 0 _ rfl; (with_reducible repeat (first | refine blk_drewN ?_ _ | refine blk_drew ?_ | refine blk_alloc ?_ _)); exact BK105.out) hg (Kd.R_away HO_12.out (fun _ hk => hk.2))); have n1_ := Aside0.mk (hb); have n2_ := Aside0.mk (ho); clear BK105; clear HB; clear HO_12; have BK105 := n0_; have HB := n1_; have HO118 := n2_; clear n0_ n1_ n2_; clear ho hb hg hat; have hcz51_0 : w50.cell? ⟨gb105, 0, none⟩ = some (.bool (decide (x16_20 > 0))) := (blk_cell BK105.out 0).trans rfl; have hcz51_1 : w50.cell? ⟨gb105, 1, none⟩ = some (.int .i64 x13_2) := (blk_cell BK105.out 1).trans rfl; have hcz51_2 : w50.cell? ⟨gb105, 2, none⟩ = some (.int .i64 (wrap64 (x13_2 + x16_20))) := (blk_cell BK105.out 2).trans rfl; have hcz51_3 : w50.cell? ⟨gb105, 3, none⟩ = some (.int .i64 x14_2) := (blk_cell BK105.out 3).trans rfl; have hcz51_4 : w50.cell? ⟨gb105, 4, none⟩ = some (.int .i64 (wrap64 (x14_2 + x16_20))) := (blk_cell BK105.out 4).trans rfl; have hcz51_5 : w50.cell? ⟨gb105, 5, none⟩ = some (.int .i64 x15_2) := (blk_cell BK105.out 5).trans rfl; have hcz51_6 : w50.cell? ⟨gb105, 6, none⟩ = some (.int .i64 (wrap64 (x15_2 + x16_20))) := (blk_cell BK105.out 6).trans rfl; have hfz51_0 := blk_frozen BK105.out 0; have hfz51_1 := blk_frozen BK105.out 1; have hfz51_2 := blk_frozen BK105.out 2; have hfz51_3 := blk_frozen BK105.out 3; have hfz51_4 := blk_frozen BK105.out 4; have hfz51_5 := blk_frozen BK105.out 5; have hfz51_6 := blk_frozen BK105.out 6)); try go_wp2_with (first | ((with_reducible refine gate_dst (N := 17) rfl ?_); refine box_event ?hg (N := 17) ?hd (cs := #[.bool false, .int .i64 0, .int .i64 0, .int .i64 0, .int .i64 0, .int .i64 0, .int .i64 0]) (t := 81) ?hr ?_; (case hd => rfl); (case hg => rfl); (case hr => first | (go_simp; done) | (go_simp; rfl)); intro gb105 hg w48 hbox hb; have n0_ := Aside0.mk (Kd.R_below (Kd.R_elderB (by (with_reducible repeat (first | apply Kd.R_alloc | apply Kd.R_drewN | apply Kd.R_drew)); exact HO_12.out) gb105 (Nat.le_of_eq hg.symm)) hb); have n1_ := Aside0.mk (below_step (by repeat (first | (with_reducible first | exact HB.out | apply below_alloc | apply pw_below_drewN | apply below_drew1) | exact HB.out)) hb); have n2_ := Aside0.mk (hbox); have n3_ := Aside0.mk ((by rw [hg]; exact (below_size (by repeat (first | (with_reducible first | exact HB.out | apply below_alloc | apply pw_below_drewN | apply below_drew1) | exact HB.out))) : w.heap.size ≤ gb105)); have n4_ := Aside0.mk ((by rw [hg]; exact (below_size (by repeat (first | (with_reducible first | exact HB.out | apply below_alloc | apply pw_below_drewN | apply below_drew1) | exact HB.out))) : w.heap.size ≤ gb105)); clear HO_12; clear HB; have HO_12 := n0_; have HB := n1_; have BK105 := n2_; have GW105 := n3_; have GE105 := n4_; clear n0_ n1_ n2_ n3_ n4_; clear hb hbox hg; have hcz49_0 : w48.cell? ⟨gb105, 0, none⟩ = some (.bool false) := (blk_cell BK105.out 0).trans rfl; have hcz49_1 : w48.cell? ⟨gb105, 1, none⟩ = some (.int .i64 0) := (blk_cell BK105.out 1).trans rfl; have hcz49_2 : w48.cell? ⟨gb105, 2, none⟩ = some (.int .i64 0) := (blk_cell BK105.out 2).trans rfl; have hcz49_3 : w48.cell? ⟨gb105, 3, none⟩ = some (.int .i64 0) := (blk_cell BK105.out 3).trans rfl; have hcz49_4 : w48.cell? ⟨gb105, 4, none⟩ = some (.int .i64 0) := (blk_cell BK105.out 4).trans rfl; have hcz49_5 : w48.cell? ⟨gb105, 5, none⟩ = some (.int .i64 0) := (blk_cell BK105.out 5).trans rfl; have hcz49_6 : w48.cell? ⟨gb105, 6, none⟩ = some (.int .i64 0) := (blk_cell BK105.out 6).trans rfl; have hfz49_0 := blk_frozen BK105.out 0; have hfz49_1 := blk_frozen BK105.out 1; have hfz49_2 := blk_frozen BK105.out 2; have hfz49_3 := blk_frozen BK105.out 3; have hfz49_4 := blk_frozen BK105.out 4; have hfz49_5 := blk_frozen BK105.out 5; have hfz49_6 := blk_frozen BK105.out 6) | ((with_reducible refine gate_builtin (b := .append) (xs := #[.tmp 150, .tmp 152]) rfl ?_); at_builtin; refine Kd.R_append k81 (w0 := w) w.heap.size rfl (.tmp 150) (.tmp 152) 70 81 (.agg #[(.bool false), (.int .i64 0), (.int .i64 0), (.int .i64 0), (.int .i64 0), (.int .i64 0), (.int .i64 0)]) 56 rfl Try.underlying70 info81 rfl (by decide) (by omega) u12 x12_2 (⟨decide (x16_20 > 0), (⟨x13_2, wrap64 (x13_2 + x16_20)⟩ : S79), (⟨x14_2, wrap64 (x14_2 + x16_20)⟩ : S79), (⟨x15_2, wrap64 (x15_2 + x16_20)⟩ : S79)⟩ : S81) [.bool (decide (x16_20 > 0)), .int .i64 x13_2, .int .i64 (wrap64 (x13_2 + x16_20)), .int .i64 x14_2, .int .i64 (wrap64 (x14_2 + x16_20)), .int .i64 x15_2, .int .i64 (wrap64 (x15_2 + x16_20))] (fun k_ => k_ ≠ gb105) (fun _ => False) rfl (by first | (go_simp; done) | (go_simp; rfl)) ?aP (fun _ hk => hk.elim) ?aF ?aO ?aB ?aS ?aL ?_; (case aP => exact k81_mkM _ _ _ (⟨decide (x16_20 > 0), (⟨x13_2, wrap64 (x13_2 + x16_20)⟩ : S79), (⟨x14_2, wrap64 (x14_2 + x16_20)⟩ : S79), (⟨x15_2, wrap64 (x15_2 + x16_20)⟩ : S79)⟩ : S81)); (case aB => exact (by repeat (first | (with_reducible first | exact HB.out | apply below_alloc | apply pw_below_drewN | apply below_drew1 | refine below_set ?_ GE105.out) | exact HB.out))); (case aF => exact (fun k_ hk => Kd.freshB (g := gb105) (o := .cells #[.bool (decide (x16_20 > 0)), .int .i64 x13_2, .int .i64 (wrap64 (x13_2 + x16_20)), .int .i64 x14_2, .int .i64 (wrap64 (x14_2 + x16_20)), .int .i64 x15_2, .int .i64 (wrap64 (x15_2 + x16_20))] 81 (0, 0)) (by (with_reducible repeat (first | refine blk_drewN ?_ _ | refine blk_drew ?_ | refine blk_alloc ?_ _)); refine blk_put (cs := #[.bool (decide (x16_20 > 0)), .int .i64 x13_2, .int .i64 (wrap64 (x13_2 + x16_20)), .int .i64 x14_2, .int .i64 (wrap64 (x14_2 + x16_20)), .int .i64 x15_2, .int .i64 0]) ?_ 6 _ rfl; (with_reducible repeat (first | refine blk_drewN ?_ _ | refine blk_drew ?_ | refine blk_alloc ?_ _)); refine blk_put (cs := #[.bool (decide (x16_20 > 0)), .int .i64 x13_2, .int .i64 (wrap64 (x13_2 + x16_20)), .int .i64 x14_2, .int .i64 (wrap64 (x14_2 + x16_20)), .int .i64 0, .int .i64 0]) ?_ 5 _ rfl; (with_reducible repeat (first | refine blk_drewN ?_ _ | refine blk_drew ?_ | refine blk_alloc ?_ _)); refine blk_put (cs := #[.bool (decide (x16_20 > 0)), .int .i64 x13_2, .int .i64 (wrap64 (x13_2 + x16_20)), .int .i64 x14_2, .int .i64 0, .int .i64 0, .int .i64 0]) ?_ 4 _ rfl; (with_reducible repeat (first | refine blk_drewN ?_ _ | refine blk_drew ?_ | refine blk_alloc ?_ _)); refine blk_put (cs := #[.bool (decide (x16_20 > 0)), .int .i64 x13_2, .int .i64 (wrap64 (x13_2 + x16_20)), .int .i64 0, .int .i64 0, .int .i64 0, .int .i64 0]) ?_ 3 _ rfl; (with_reducible repeat (first | refine blk_drewN ?_ _ | refine blk_drew ?_ | refine blk_alloc ?_ _)); refine blk_put (cs := #[.bool (decide (x16_20 > 0)), .int .i64 x13_2, .int .i64 0, .int .i64 0, .int .i64 0, .int .i64 0, .int .i64 0]) ?_ 2 _ rfl; (with_reducible repeat (first | refine blk_drewN ?_ _ | refine blk_drew ?_ | refine blk_alloc ?_ _)); refine blk_put (cs := #[.bool (decide (x16_20 > 0)), .int .i64 0, .int .i64 0, .int .i64 0, .int .i64 0, .int .i64 0, .int .i64 0]) ?_ 1 _ rfl; (with_reducible repeat (first | refine blk_drewN ?_ _ | refine blk_drew ?_ | refine blk_alloc ?_ _)); refine blk_put (cs := #[.bool false, .int .i64 0, .int .i64 0, .int .i64 0, .int .i64 0, .int .i64 0, .int .i64 0]) ?_ 0 _ rfl; (with_reducible repeat (first | refine blk_drewN ?_ _ | refine blk_drew ?_ | refine blk_alloc ?_ _)); exact BK105.out) k_ hk)); (case aO => exact (by (with_reducible repeat (first | apply Kd.R_alloc | apply Kd.R_drewN | apply Kd.R_drew)); exact Kd.R_mono (Kd.R_far (p := ⟨gb105, 6, none⟩) (Kd.R_far (p := ⟨gb105, 5, none⟩) (Kd.R_far (p := ⟨gb105, 4, none⟩) (Kd.R_far (p := ⟨gb105, 3, none⟩) (Kd.R_far (p := ⟨gb105, 2, none⟩) (Kd.R_far (p := ⟨gb105, 1, none⟩) (Kd.R_far (p := ⟨gb105, 0, none⟩) (Kd.R_mono HO_12.out (fun k_ hk => (⟨hk, hk.2⟩ : _ ∧ k_ ≠ gb105))) (fun _ hk => hk.2) (.bool (decide (x16_20 > 0)))) (fun _ hk => hk.2) (.int .i64 x13_2)) (fun _ hk => hk.2) (.int .i64 (wrap64 (x13_2 + x16_20)))) (fun _ hk => hk.2) (.int .i64 x14_2)) (fun _ hk => hk.2) (.int .i64 (wrap64 (x14_2 + x16_20)))) (fun _ hk => hk.2) (.int .i64 x15_2)) (fun _ hk => hk.2) (.int .i64 (wrap64 (x15_2 + x16_20)))) (fun _ hk => hk.1.2))); (case aS => exact (below_size (by repeat (first | (with_reducible first | exact HB.out | apply below_alloc | apply pw_below_drewN | apply below_drew1 | refine below_set ?_ GE105.out) | exact HB.out)))); (case aL => have := LMc47.out; omega); intro v117 w50 ho hb hg hat; rw [← Ny116.out] at ho; have n0_ := Aside0.mk (blk_grown (g := gb105) (o := .cells #[.bool (decide (x16_20 > 0)), .int .i64 x13_2, .int .i64 (wrap64 (x13_2 + x16_20)), .int .i64 x14_2, .int .i64 (wrap64 (x14_2 + x16_20)), .int .i64 x15_2, .int .i64 (wrap64 (x15_2 + x16_20))] 81 (0, 0)) (by (with_reducible repeat (first | refine blk_drewN ?_ _ | refine blk_drew ?_ | refine blk_alloc ?_ _)); refine blk_put (cs := #[.bool (decide (x16_20 > 0)), .int .i64 x13_2, .int .i64 (wrap64 (x13_2 + x16_20)), .int .i64 x14_2, .int .i64 (wrap64 (x14_2 + x16_20)), .int .i64 x15_2, .int .i64 0]) ?_ 6 _ rfl; (with_reducible repeat (first | refine blk_drewN ?_ _ | refine blk_drew ?_ | refine blk_alloc ?_ _)); refine blk_put (cs := #[.bool (decide (x16_20 > 0)), .int .i64 x13_2, .int .i64 (wrap64 (x13_2 + x16_20)), .int .i64 x14_2, .int .i64 (wrap64 (x14_2 + x16_20)), .int .i64 0, .int .i64 0]) ?_ 5 _ rfl; (with_reducible repeat (first | refine blk_drewN ?_ _ | refine blk_drew ?_ | refine blk_alloc ?_ _)); refine blk_put (cs := #[.bool (decide (x16_20 > 0)), .int .i64 x13_2, .int .i64 (wrap64 (x13_2 + x16_20)), .int .i64 x14_2, .int .i64 0, .int .i64 0, .int .i64 0]) ?_ 4 _ rfl; (with_reducible repeat (first | refine blk_drewN ?_ _ | refine blk_drew ?_ | refine blk_alloc ?_ _)); refine blk_put (cs := #[.bool (decide (x16_20 > 0)), .int .i64 x13_2, .int .i64 (wrap64 (x13_2 + x16_20)), .int .i64 0, .int .i64 0, .int .i64 0, .int .i64 0]) ?_ 3 _ rfl; (with_reducible repeat (first | refine blk_drewN ?_ _ | refine blk_drew ?_ | refine blk_alloc ?_ _)); refine blk_put (cs := #[.bool (decide (x16_20 > 0)), .int .i64 x13_2, .int .i64 0, .int .i64 0, .int .i64 0, .int .i64 0, .int .i64 0]) ?_ 2 _ rfl; (with_reducible repeat (first | refine blk_drewN ?_ _ | refine blk_drew ?_ | refine blk_alloc ?_ _)); refine blk_put (cs := #[.bool (decide (x16_20 > 0)), .int .i64 0, .int .i64 0, .int .i64 0, .int .i64 0, .int .i64 0, .int .i64 0]) ?_ 1 _ rfl; (with_reducible repeat (first | refine blk_drewN ?_ _ | refine blk_drew ?_ | refine blk_alloc ?_ _)); refine blk_put (cs := #[.bool false, .int .i64 0, .int .i64 0, .int .i64 0, .int .i64 0, .int .i64 0, .int .i64 0]) ?_ 0 _ rfl; (with_reducible repeat (first | refine blk_drewN ?_ _ | refine blk_drew ?_ | refine blk_alloc ?_ _)); exact BK105.out) hg (Kd.R_away HO_12.out (fun _ hk => hk.2))); have n1_ := Aside0.mk (hb); have n2_ := Aside0.mk (ho); clear BK105; clear HB; clear HO_12; have BK105 := n0_; have HB := n1_; have HO118 := n2_; clear n0_ n1_ n2_; clear ho hb hg hat; have hcz51_0 : w50.cell? ⟨gb105, 0, none⟩ = some (.bool (decide (x16_20 > 0))) := (blk_cell BK105.out 0).trans rfl; have hcz51_1 : w50.cell? ⟨gb105, 1, none⟩ = some (.int .i64 x13_2) := (blk_cell BK105.out 1).trans rfl; have hcz51_2 : w50.cell? ⟨gb105, 2, none⟩ = some (.int .i64 (wrap64 (x13_2 + x16_20))) := (blk_cell BK105.out 2).trans rfl; have hcz51_3 : w50.cell? ⟨gb105, 3, none⟩ = some (.int .i64 x14_2) := (blk_cell BK105.out 3).trans rfl; have hcz51_4 : w50.cell? ⟨gb105, 4, none⟩ = some (.int .i64 (wrap64 (x14_2 + x16_20))) := (blk_cell BK105.out 4).trans rfl; have hcz51_5 : w50.cell? ⟨gb105, 5, none⟩ = some (.int .i64 x15_2) := (blk_cell BK105.out 5).trans rfl; have hcz51_6 : w50.cell? ⟨gb105, 6, none⟩ = some (.int .i64 (wrap64 (x15_2 + x16_20))) := (blk_cell BK105.out 6).trans rfl; have hfz51_0 := blk_frozen BK105.out 0; have hfz51_1 := blk_frozen BK105.out 1; have hfz51_2 := blk_frozen BK105.out 2; have hfz51_3 := blk_frozen BK105.out 3; have hfz51_4 := blk_frozen BK105.out 4; have hfz51_5 := blk_frozen BK105.out 5; have hfz51_6 := blk_frozen BK105.out 6)))
             go_roundg kj20
             case measure => have := HJ5.out; have := HK2.out; have := HJ16.out; have := HJ20.out; omega
             case rel => exact ⟨(y116), (wrap64 (x13_2 + x16_20)), (wrap64 (x14_2 + x16_20)), (wrap64 (x15_2 + x16_20)), (by first | rfl | (simp; done) | (simp [*]; done)), (by first | rfl | (simp; done) | (simp [*]; done)), (by first | rfl | (simp; done) | (simp [*]; done)), H', ⟨by have := HJ5.out; have := HK2.out; have := HJ16.out; have := HJ20.out; omega⟩, ⟨by (with_reducible repeat (first | apply Kd.R_alloc | apply Kd.R_drewN | apply Kd.R_drew)); exact Kd.R_mono HO118.out (fun _ hk => trivial)⟩, ⟨by repeat (first | (with_reducible first | exact HB.out | apply below_alloc | apply pw_below_drewN | apply below_drew1 | refine below_set ?_ GE105.out) | exact HB.out)⟩⟩
            ·rw [if_neg c47] at H
             exact absurd H (by simp)
        ·replace c20 := Bool.eq_false_iff.mpr c20
         subst c20
         have H1 : (some (x12_2, true)) = some (r1, r2) := by rw [if_neg (show ¬ (false = true) by decide)] at H; exact H
         clear H
         have H := H1
         clear H1
         simp only [Option.some.injEq, Prod.mk.injEq] at H
         obtain ⟨rfl, rfl⟩ := H
         go_wp2
         repeat (go_quiet (fail); try go_wp2)
         go_ret2
         exact ⟨_, by first | rfl | (simp [errW_none, errW_some] <;> rfl) | (simp [*, errW_none, errW_some] <;> rfl), by (with_reducible repeat (first | apply Kd.R_alloc | apply Kd.R_drewN | apply Kd.R_drew)); exact HO_12.out, by repeat (first | (with_reducible first | exact HB.out | apply below_alloc | apply pw_below_drewN | apply below_drew1) | exact HB.out)⟩

end Go.Proofs.Ytadafplbgophfaa.PA
end
section
/- The statement ChunkLists, walked: at all numbers and pairs it answers true. -/
namespace Go.Proofs.Ytadafplbgophfaa.PA
set_option linter.unusedSimpArgs false
set_option linter.unusedVariables false
open Go.RowKit Go.Proofs.YtadafplbgophfaaW.PrintWords Go.Proofs.YtadafplbgophfaaW.PrintLast Go.Proofs.YtadafplbgophfaaW.PrintMore
attribute [local go_sem] max2_int min2_int max_two min_two max_three min_three max_four min_four
open Chk

/-- the smaller of a length and a number, in the walk's spellings -/
theorem alloc_gen11 {P : World → Prop} {W : World} {cs : Array Value} {t : TypeId} (h : ∀ W', W'.heap[W.heap.size]? = some (.cells cs t (0, 0)) → Below W.heap.size W W' → P W') : P (W.alloc (.cells cs t (0, 0))) := h _ (blk_new W _) (below_alloc (Below.refl _ _) _)
theorem hold17 {W w' : World} {a0 a1 a2 a3 a4 a5 a6 a7 a8 a9 a10 a11 a12 a13 a14 a15 a16 : Addr} {v0 v1 v2 v3 v4 v5 v6 v7 v8 v9 v10 v11 v12 v13 v14 v15 v16 : Value} (hb : Below W.heap.size W w') (h : W.cell? a0 = some v0 ∧ W.cell? a1 = some v1 ∧ W.cell? a2 = some v2 ∧ W.cell? a3 = some v3 ∧ W.cell? a4 = some v4 ∧ W.cell? a5 = some v5 ∧ W.cell? a6 = some v6 ∧ W.cell? a7 = some v7 ∧ W.cell? a8 = some v8 ∧ W.cell? a9 = some v9 ∧ W.cell? a10 = some v10 ∧ W.cell? a11 = some v11 ∧ W.cell? a12 = some v12 ∧ W.cell? a13 = some v13 ∧ W.cell? a14 = some v14 ∧ W.cell? a15 = some v15 ∧ W.cell? a16 = some v16) : w'.cell? a0 = some v0 ∧ w'.cell? a1 = some v1 ∧ w'.cell? a2 = some v2 ∧ w'.cell? a3 = some v3 ∧ w'.cell? a4 = some v4 ∧ w'.cell? a5 = some v5 ∧ w'.cell? a6 = some v6 ∧ w'.cell? a7 = some v7 ∧ w'.cell? a8 = some v8 ∧ w'.cell? a9 = some v9 ∧ w'.cell? a10 = some v10 ∧ w'.cell? a11 = some v11 ∧ w'.cell? a12 = some v12 ∧ w'.cell? a13 = some v13 ∧ w'.cell? a14 = some v14 ∧ w'.cell? a15 = some v15 ∧ w'.cell? a16 = some v16 := ⟨pw_cell_below hb h.1, pw_cell_below hb h.2.1, pw_cell_below hb h.2.2.1, pw_cell_below hb h.2.2.2.1, pw_cell_below hb h.2.2.2.2.1, pw_cell_below hb h.2.2.2.2.2.1, pw_cell_below hb h.2.2.2.2.2.2.1, pw_cell_below hb h.2.2.2.2.2.2.2.1, pw_cell_below hb h.2.2.2.2.2.2.2.2.1, pw_cell_below hb h.2.2.2.2.2.2.2.2.2.1, pw_cell_below hb h.2.2.2.2.2.2.2.2.2.2.1, pw_cell_below hb h.2.2.2.2.2.2.2.2.2.2.2.1, pw_cell_below hb h.2.2.2.2.2.2.2.2.2.2.2.2.1, pw_cell_below hb h.2.2.2.2.2.2.2.2.2.2.2.2.2.1, pw_cell_below hb h.2.2.2.2.2.2.2.2.2.2.2.2.2.2.1, pw_cell_below hb h.2.2.2.2.2.2.2.2.2.2.2.2.2.2.2.1, pw_cell_below hb h.2.2.2.2.2.2.2.2.2.2.2.2.2.2.2.2⟩
theorem hold18 {W w' : World} {a0 a1 a2 a3 a4 a5 a6 a7 a8 a9 a10 a11 a12 a13 a14 a15 a16 a17 : Addr} {v0 v1 v2 v3 v4 v5 v6 v7 v8 v9 v10 v11 v12 v13 v14 v15 v16 v17 : Value} (hb : Below W.heap.size W w') (h : W.cell? a0 = some v0 ∧ W.cell? a1 = some v1 ∧ W.cell? a2 = some v2 ∧ W.cell? a3 = some v3 ∧ W.cell? a4 = some v4 ∧ W.cell? a5 = some v5 ∧ W.cell? a6 = some v6 ∧ W.cell? a7 = some v7 ∧ W.cell? a8 = some v8 ∧ W.cell? a9 = some v9 ∧ W.cell? a10 = some v10 ∧ W.cell? a11 = some v11 ∧ W.cell? a12 = some v12 ∧ W.cell? a13 = some v13 ∧ W.cell? a14 = some v14 ∧ W.cell? a15 = some v15 ∧ W.cell? a16 = some v16 ∧ W.cell? a17 = some v17) : w'.cell? a0 = some v0 ∧ w'.cell? a1 = some v1 ∧ w'.cell? a2 = some v2 ∧ w'.cell? a3 = some v3 ∧ w'.cell? a4 = some v4 ∧ w'.cell? a5 = some v5 ∧ w'.cell? a6 = some v6 ∧ w'.cell? a7 = some v7 ∧ w'.cell? a8 = some v8 ∧ w'.cell? a9 = some v9 ∧ w'.cell? a10 = some v10 ∧ w'.cell? a11 = some v11 ∧ w'.cell? a12 = some v12 ∧ w'.cell? a13 = some v13 ∧ w'.cell? a14 = some v14 ∧ w'.cell? a15 = some v15 ∧ w'.cell? a16 = some v16 ∧ w'.cell? a17 = some v17 := ⟨pw_cell_below hb h.1, pw_cell_below hb h.2.1, pw_cell_below hb h.2.2.1, pw_cell_below hb h.2.2.2.1, pw_cell_below hb h.2.2.2.2.1, pw_cell_below hb h.2.2.2.2.2.1, pw_cell_below hb h.2.2.2.2.2.2.1, pw_cell_below hb h.2.2.2.2.2.2.2.1, pw_cell_below hb h.2.2.2.2.2.2.2.2.1, pw_cell_below hb h.2.2.2.2.2.2.2.2.2.1, pw_cell_below hb h.2.2.2.2.2.2.2.2.2.2.1, pw_cell_below hb h.2.2.2.2.2.2.2.2.2.2.2.1, pw_cell_below hb h.2.2.2.2.2.2.2.2.2.2.2.2.1, pw_cell_below hb h.2.2.2.2.2.2.2.2.2.2.2.2.2.1, pw_cell_below hb h.2.2.2.2.2.2.2.2.2.2.2.2.2.2.1, pw_cell_below hb h.2.2.2.2.2.2.2.2.2.2.2.2.2.2.2.1, pw_cell_below hb h.2.2.2.2.2.2.2.2.2.2.2.2.2.2.2.2.1, pw_cell_below hb h.2.2.2.2.2.2.2.2.2.2.2.2.2.2.2.2.2⟩
theorem hold6 {W w' : World} {a0 a1 a2 a3 a4 a5 : Addr} {v0 v1 v2 v3 v4 v5 : Value} (hb : Below W.heap.size W w') (h : W.cell? a0 = some v0 ∧ W.cell? a1 = some v1 ∧ W.cell? a2 = some v2 ∧ W.cell? a3 = some v3 ∧ W.cell? a4 = some v4 ∧ W.cell? a5 = some v5) : w'.cell? a0 = some v0 ∧ w'.cell? a1 = some v1 ∧ w'.cell? a2 = some v2 ∧ w'.cell? a3 = some v3 ∧ w'.cell? a4 = some v4 ∧ w'.cell? a5 = some v5 := ⟨pw_cell_below hb h.1, pw_cell_below hb h.2.1, pw_cell_below hb h.2.2.1, pw_cell_below hb h.2.2.2.1, pw_cell_below hb h.2.2.2.2.1, pw_cell_below hb h.2.2.2.2.2⟩
theorem link_step {base left right i t0 t1 t2 : Int} {p : Option Bool} {cs : List S81} {x y : List S78} (hx : x = cs.map to78) (hy : y = (cs.map turn).map to78) (h0 : 0 ≤ i) (h1 : i < cs.length) (hL : Linked base left right p t0 t1 t2 (cs.drop i.toNat)) (hP : 0 < i → p = some (rd_T81 cs (i - 1)).f0) :
  ∃ st o2 a2 b2, rd_T78 x i = ⟨st, ⟨t0, o2⟩, ⟨t1, a2⟩, ⟨t2, b2⟩⟩ ∧ rd_T78 y i = ⟨st, ⟨t0, o2⟩, ⟨t2, b2⟩, ⟨t1, a2⟩⟩ ∧ (rd_T81 cs i).f0 = st ∧ (0 < i → (rd_T78 x (i - 1)).f0 ≠ st) ∧ (0 ≤ t0 ∧ t0 ≤ o2 ∧ o2 ≤ base ∧ 0 ≤ t1 ∧ t1 ≤ a2 ∧ a2 ≤ left ∧ 0 ≤ t2 ∧ t2 ≤ b2 ∧ b2 ≤ right ∧ 0 < (o2 - t0) + (a2 - t1) + (b2 - t2)) ∧ Linked base left right (some st) o2 a2 b2 (cs.drop (i + 1).toNat) := by
 obtain ⟨n, rfl⟩ := Int.eq_ofNat_of_zero_le h0
 have hn : n < cs.length := by omega
 rw [Int.toNat_natCast, List.drop_eq_getElem_cons hn] at hL
 obtain ⟨⟨e1, e2, e3⟩, hp, hr, hL2⟩ := hL
 have ex : rd_T78 x (n : Int) = to78 cs[n] := by rw [hx, rdT78_nat _ (by simpa using hn), List.getElem_map]
 have ey : rd_T78 y (n : Int) = to78 (turn cs[n]) := by rw [hy, rdT78_nat _ (by simpa using hn), List.getElem_map, List.getElem_map]
 have ec : rd_T81 cs (n : Int) = cs[n] := rdT81_nat _ hn
 have en : ((n : Int) + 1).toNat = n + 1 := by omega
 rw [en, ex, ey, ec]
 rcases hcn : cs[n] with ⟨st, ⟨q0, o2⟩, ⟨q1, a2⟩, ⟨q2, b2⟩⟩
 rw [hcn] at e1 e2 e3 hp hr hL2
 simp only at e1 e2 e3 hp hr hL2
 subst e1 e2 e3
 refine ⟨st, o2, a2, b2, rfl, rfl, rfl, fun h hh => ?_, hr, hL2⟩
 have hP' := hP h
 have em : (n : Int) - 1 = ((n - 1 : Nat) : Int) := by omega
 rw [em, hx, rdT78_nat _ (by simp; omega), List.getElem_map] at hh
 rw [em, rdT81_nat _ (by omega)] at hP'
 exact hp (hP'.trans (congrArg some hh))
theorem link_end {base left right i t0 t1 t2 : Int} {p : Option Bool} {cs : List S81} (h1 : i = cs.length) (hL : Linked base left right p t0 t1 t2 (cs.drop i.toNat)) : t0 = base ∧ t1 = left ∧ t2 = right := by
 subst h1
 rw [Int.toNat_natCast, List.drop_of_length_le (Nat.le_refl _)] at hL
 exact hL
theorem len_ok {a b : Int} (h0 : 0 ≤ a) (h1 : a ≤ b) (h2 : b ≤ 60) : chunk_Span_Len.f a b = some (b - a) := by
 unfold chunk_Span_Len.f
 rw [Jdg.w64 (by omega) (by omega), mx, if_neg (by omega)]
theorem wf_small {a : Int} (h0 : -1 ≤ a) (h1 : a ≤ 60) : (Lit.int .i64 a).wf = true := by
 have e1 : IntKind.i64.min = -9223372036854775808 := by rfl
 have e2 : IntKind.i64.max = 9223372036854775807 := by rfl
 simp only [Lit.wf, e1, e2, Bool.and_eq_true, decide_eq_true_eq]
 omega
theorem keyLits65 (a b c : Int) (ha : (Lit.int .i64 a).wf = true) (hb : (Lit.int .i64 b).wf = true) (hc : (Lit.int .i64 c).wf = true) : ∃ L, (Try.prog.keyLits 2 65 (Value.agg #[.int .i64 a, .int .i64 b, .int .i64 c]).cells.toList) = some L := by
 have hu65 := Try.underlying65
 have hu3 := Try.underlying3
 have c65 : Try.prog.cellsOf 65 = 3 := by kernel_rfl
 have c3 : Try.prog.cellsOf 3 = 1 := by kernel_rfl
 simp [Program.keyLits, hu65, hu3, Value.cells, c65, c3, List.range, List.range.loop, List.mapM_cons, ha, hb, hc]
theorem arr_eq65 {a b c : Int} (a0 : -1 ≤ a) (a1 : a ≤ 60) (b0 : -1 ≤ b) (b1 : b ≤ 60) (c0 : -1 ≤ c) (c1 : c ≤ 60) (W : World) : Sem.run Try.prog (Op.equalIn 10000 65 (.agg #[.int .i64 a, .int .i64 b, .int .i64 c]) (.agg #[.int .i64 a, .int .i64 b, .int .i64 c])) W = Result.ok true W := by
 have h : EqAt Try.prog (9990 + 10) 65 := run_equalIn_deep 9990 10 65 (by kernel_rfl)
 have hf : (Value.agg #[.int .i64 a, .int .i64 b, .int .i64 c]).formed Try.prog 65 = true := by kernel_rfl
 obtain ⟨L, hL⟩ := keyLits65 a b c (wf_small a0 a1) (wf_small b0 b1) (wf_small c0 c1)
 obtain ⟨r, h1, h2⟩ := h W 2 2 _ _ L L hf hf hL hL
 rw [h2.2 rfl] at h1
 exact h1
theorem min_len11 (n N : Nat) (M : Int) (h : M = N) : ∃ j : Int, (if M < (n : Int) then M else (n : Int)) = j ∧ (if N < n then M else (n : Int)) = j ∧ 0 ≤ j ∧ j ≤ n ∧ j ≤ M := by
 refine ⟨_, rfl, ?_, ?_, ?_, ?_⟩ <;> (repeat' split) <;> omega

theorem at_drewN11 {P : World → Prop} {w1 : World} {n : Nat} (h : ∀ m, P (w1.drewN m)) : P (w1.drewN n) := h n
set_option maxHeartbeats 40000000 in
set_option maxRecDepth 100000 in
theorem ChunkLists_walk (n0 n1 n2 : Int) (A1 : Option Addr) (c1 : Nat) (l1 : List S37) (A2 : Option Addr) (c2 : Nat) (l2 : List S37) (w : World) (hr1 : Kd.C k37 w A1 l1.length l1) (hc1 : l1.length ≤ c1) (hr2 : Kd.C k37 w A2 l2.length l2) (hc2 : l2.length ≤ c2) :
  Calls Try.prog 11 #[.agg #[.int .i64 n0, .int .i64 n1, .int .i64 n2], .slice A1 l1.length c1, .slice A2 l2.length c2] w fun e w' => e = .returned (.bool true) ∧ Below w.heap.size w w' := by
 obtain ⟨j1, hj1, hj1n, lo1, hi1, up1⟩ := min_len11 l1.length 70 70 rfl
 obtain ⟨j2, hj2, hj2n, lo2, hi2, up2⟩ := min_len11 l2.length 70 70 rfl
 obtain ⟨i37, info37', _, hsz37, _⟩ := info_parts info37
 obtain ⟨hcut1, hC1, hl1⟩ := cut_h k37 30 37 Try.underlying30 info37' hsz37 A1 c1 l1 j1 lo1 hi1 hc1
 obtain ⟨hcut2, hC2, hl2⟩ := cut_h k37 30 37 Try.underlying30 info37' hsz37 A2 c2 l2 j2 lo2 hi2 hc2
 have z1 : (l1.take j1.toNat).length ≤ 70 := by rw [List.length_take]; omega
 have z2 : (l2.take j2.toNat).length ≤ 70 := by rw [List.length_take]; omega
 obtain ⟨base, hs0, lb0, ub0⟩ := small_ok n0
 obtain ⟨left, hs1, lb1, ub1⟩ := small_ok n1
 obtain ⟨right, hs2, lb2, ub2⟩ := small_ok n2
 obtain ⟨cs, er, ok, HF⟩ := facts11 base left right (l1.take j1.toNat) (l2.take j2.toNat) ub0 ub1 ub2 z1 z2
 replace hC1 := hC1 w hr1
 replace hC2 := hC2 w hr2
 generalize l1.take j1.toNat = l at *
 generalize l2.take j2.toNat = r at *
 obtain ⟨kt, ht⟩ := chunk_told
 obtain ⟨⟨k1, h1⟩, ⟨k2, h2⟩, ⟨k3, h3⟩, ⟨k4, h4⟩, ⟨k5, h5⟩, ⟨k6, h6⟩, ⟨k7, h7⟩, hcase, hfew⟩ := HF
 obtain ⟨tl, htl⟩ : ∃ z, z = l.map Jdg.to39 := ⟨_, rfl⟩
 obtain ⟨tr, htr⟩ : ∃ z, z = r.map Jdg.to39 := ⟨_, rfl⟩
 obtain ⟨x, hx⟩ : ∃ z, z = cs.map to78 := ⟨_, rfl⟩
 obtain ⟨y, hy⟩ : ∃ z, z = (cs.map turn).map to78 := ⟨_, rfl⟩
 rw [← htl] at h1 h3 h5
 rw [← htr] at h2 h3 h5
 rw [← hx] at h3 h6
 rw [← hy] at h5
 have EX := Aside0.mk hx
 have EY := Aside0.mk hy
 clear hx hy htl htr
 have Z0 := Aside0.mk hs0
 have Z1 := Aside0.mk hs1
 have Z2 := Aside0.mk hs2
 have F0 := Aside0.mk ht
 have F1 := Aside0.mk h1
 have F2 := Aside0.mk h2
 have F3 := Aside0.mk h3
 have F4 := Aside0.mk h4
 have F5 := Aside0.mk h5
 have F6 := Aside0.mk h6
 have F7 := Aside0.mk h7
 have FC := Aside0.mk hcase
 have FN := Aside0.mk hfew
 have Hl := Aside0.mk hC1
 have Hr := Aside0.mk hC2
 have Ll := Aside0.mk hl1
 have Lr := Aside0.mk hl2
 have BB := Aside0.mk (And.intro lb0 (And.intro ub0 (And.intro lb1 (And.intro ub1 (And.intro lb2 ub2)))))
 clear hr1 hc1 hr2 hc2 ht h1 h2 h3 h4 h5 h6 h7 hcase hfew hC1 hC2 hl1 hl2 info37' hsz37 lb0 ub0 lb1 ub1 lb2 ub2 hs0 hs1 hs2 z1 z2
 have hu65 := Try.underlying65
 have hu78 := Try.underlying78
 have hu76 := Try.underlying76
 have hu81 := Try.underlying81
 have HB := Aside0.mk (Below.refl w.heap.size w)
 go_enter Try.func11, Try.ntmps11
 go_wp2_with (first | ((with_reducible refine gate_dst (N := 3) rfl ?_); refine box_event ?hg (N := 3) ?hd (cs := #[.int .i64 n0, .int .i64 n1, .int .i64 n2]) (t := 65) ?hr ?_; (case hd => rfl); (case hg => rfl); (case hr => first | (go_simp; done) | (go_simp; rfl)); intro g0 hg w1 hbox hb))
 have BP := Aside0.mk hbox
 subst hg
 have HW := Aside0.mk hb
 replace Hl := Aside0.mk (Kd.C_below Hl.out hb)
 replace Hr := Aside0.mk (Kd.C_below Hr.out hb)
 replace HB := Aside0.mk hb
 have q0 := (blk_cell hbox 0).trans (show _ = some (Value.int .i64 n0) from rfl)
 have q1 := (blk_cell hbox 1).trans (show _ = some (Value.int .i64 n1) from rfl)
 have q2 := (blk_cell hbox 2).trans (show _ = some (Value.int .i64 n2) from rfl)
 clear hbox hb
 go_region_held3 (fun w' => w'.cell? ⟨w.heap.size, 0, none⟩ = some (.int .i64 n0) ∧ w'.cell? ⟨w.heap.size, 1, none⟩ = some (.int .i64 n1) ∧ w'.cell? ⟨w.heap.size, 2, none⟩ = some (.int .i64 n2)) (go_keep) (first | (go_at_call 48; (first | (refine (tripartitelaw06_small.calls n0 base _ Z0.out).mono ?_) | (refine (tripartitelaw06_small.calls n1 left _ Z1.out).mono ?_) | (refine (tripartitelaw06_small.calls n2 right _ Z2.out).mono ?_)); rintro e w' ⟨rfl, ⟨nd, rfl⟩⟩))
 refine at_drewN11 (P := fun W => Exit.then _ _ _ _ W) (w1 := w1) (fun nq => ?_)
 replace HB := Aside0.mk (pw_below_drewN HB.out nq)
 have hbw : Below w1.heap.size w1 (w1.drewN nq) := pw_below_drewN (Below.refl _ _) nq
 replace Hl := Aside0.mk (Kd.C_below Hl.out hbw)
 replace Hr := Aside0.mk (Kd.C_below Hr.out hbw)
 clear q0 q1 q2 BP HW hbw
 generalize w1.drewN nq = W0 at *
 go_wp2_with fail
 go_quiet (fail)
 replace Hl := Aside0.mk (Kd.C_below Hl.out (pw_below_drewN (Below.refl _ _) nq))
 replace Hr := Aside0.mk (Kd.C_below Hr.out (pw_below_drewN (Below.refl _ _) nq))
 replace HB := Aside0.mk (pw_below_drewN HB.out nq)
 clear hcut1 hcut2 hj1 hj2 hj1n hj2n
 go_wp2_with fail
 refine (tripartitelaw03_To.calls k1 A1 c1 l tl _ Hl.out Ll.out F1.out).mono ?_
 rintro e W1 ⟨v0_, rfl, hR, hB⟩
 replace Hl := Aside0.mk (Kd.C_below Hl.out hB)
 replace Hr := Aside0.mk (Kd.C_below Hr.out hB)
 replace HB := Aside0.mk (below_step HB.out hB)
 obtain ⟨Ap, cp, rfl, hcX, hCX⟩ := Kd.R_reads hR
 have Hp := Aside0.mk hCX
 have Lp := Aside0.mk hcX
 clear hR hB hCX hcX
 go_wp2_with fail
 refine (tripartitelaw03_To.calls k2 A2 c2 r tr _ Hr.out Lr.out F2.out).mono ?_
 rintro e W2 ⟨v0_, rfl, hR, hB⟩
 replace Hl := Aside0.mk (Kd.C_below Hl.out hB)
 replace Hr := Aside0.mk (Kd.C_below Hr.out hB)
 replace Hp := Aside0.mk (Kd.C_below Hp.out hB)
 replace HB := Aside0.mk (below_step HB.out hB)
 obtain ⟨Aq, cq, rfl, hcX, hCX⟩ := Kd.R_reads hR
 have Hq := Aside0.mk hCX
 have Lq := Aside0.mk hcX
 clear hR hB hCX hcX
 go_wp2_with fail
 refine (chunk_Of.calls k3 base left right Ap cp tl Aq cq tr x er _ Hp.out Lp.out Hq.out Lq.out F3.out).mono ?_
 rintro e W3 ⟨v0_, rfl, hR, hB⟩
 replace Hl := Aside0.mk (Kd.C_below Hl.out hB)
 replace Hr := Aside0.mk (Kd.C_below Hr.out hB)
 replace Hp := Aside0.mk (Kd.C_below Hp.out hB)
 replace Hq := Aside0.mk (Kd.C_below Hq.out hB)
 replace HB := Aside0.mk (below_step HB.out hB)
 obtain ⟨Ax, cx, rfl, hcX, hCX⟩ := Kd.R_reads hR
 have Hx := Aside0.mk hCX
 have Lx := Aside0.mk hcX
 clear hR hB hCX hcX
 go_wp2_with fail
 refine (tripartiteref06_Of.calls k4 base left right A1 c1 l A2 c2 r cs ok _ Hl.out Ll.out Hr.out Lr.out F4.out).mono ?_
 rintro e W4 ⟨v0_, rfl, hR, hB⟩
 replace Hl := Aside0.mk (Kd.C_below Hl.out hB)
 replace Hr := Aside0.mk (Kd.C_below Hr.out hB)
 replace Hp := Aside0.mk (Kd.C_below Hp.out hB)
 replace Hq := Aside0.mk (Kd.C_below Hq.out hB)
 replace Hx := Aside0.mk (Kd.C_below Hx.out hB)
 replace HB := Aside0.mk (below_step HB.out hB)
 obtain ⟨Aw, cw, rfl, hcX, hCX⟩ := Kd.R_reads hR
 have Hw := Aside0.mk hCX
 have Lw := Aside0.mk hcX
 clear hR hB hCX hcX
 go_wp2_with fail
 refine (tripartitelaw03_To.calls k2 A2 c2 r tr _ Hr.out Lr.out F2.out).mono ?_
 rintro e W5 ⟨v0_, rfl, hR, hB⟩
 replace Hl := Aside0.mk (Kd.C_below Hl.out hB)
 replace Hr := Aside0.mk (Kd.C_below Hr.out hB)
 replace Hp := Aside0.mk (Kd.C_below Hp.out hB)
 replace Hq := Aside0.mk (Kd.C_below Hq.out hB)
 replace Hx := Aside0.mk (Kd.C_below Hx.out hB)
 replace Hw := Aside0.mk (Kd.C_below Hw.out hB)
 replace HB := Aside0.mk (below_step HB.out hB)
 obtain ⟨As, cs', rfl, hcX, hCX⟩ := Kd.R_reads hR
 have Hs := Aside0.mk hCX
 have Ls := Aside0.mk hcX
 clear hR hB hCX hcX
 go_wp2_with fail
 refine (tripartitelaw03_To.calls k1 A1 c1 l tl _ Hl.out Ll.out F1.out).mono ?_
 rintro e W6 ⟨v0_, rfl, hR, hB⟩
 replace Hl := Aside0.mk (Kd.C_below Hl.out hB)
 replace Hr := Aside0.mk (Kd.C_below Hr.out hB)
 replace Hp := Aside0.mk (Kd.C_below Hp.out hB)
 replace Hq := Aside0.mk (Kd.C_below Hq.out hB)
 replace Hx := Aside0.mk (Kd.C_below Hx.out hB)
 replace Hw := Aside0.mk (Kd.C_below Hw.out hB)
 replace Hs := Aside0.mk (Kd.C_below Hs.out hB)
 replace HB := Aside0.mk (below_step HB.out hB)
 obtain ⟨At, ct, rfl, hcX, hCX⟩ := Kd.R_reads hR
 have Ht := Aside0.mk hCX
 have Lt := Aside0.mk hcX
 clear hR hB hCX hcX
 go_wp2_with fail
 refine (chunk_Of.calls k5 base right left As cs' tr At ct tl y er _ Hs.out Ls.out Ht.out Lt.out F5.out).mono ?_
 rintro e W7 ⟨v0_, rfl, hR, hB⟩
 replace Hl := Aside0.mk (Kd.C_below Hl.out hB)
 replace Hr := Aside0.mk (Kd.C_below Hr.out hB)
 replace Hp := Aside0.mk (Kd.C_below Hp.out hB)
 replace Hq := Aside0.mk (Kd.C_below Hq.out hB)
 replace Hx := Aside0.mk (Kd.C_below Hx.out hB)
 replace Hw := Aside0.mk (Kd.C_below Hw.out hB)
 replace Hs := Aside0.mk (Kd.C_below Hs.out hB)
 replace Ht := Aside0.mk (Kd.C_below Ht.out hB)
 replace HB := Aside0.mk (below_step HB.out hB)
 obtain ⟨Ay, cy, rfl, hcX, hCX⟩ := Kd.R_reads hR
 have Hy := Aside0.mk hCX
 have Ly := Aside0.mk hcX
 clear hR hB hCX hcX
 go_wp2_with fail
 refine (tripartitelaw06_told.calls kt true _ F0.out).mono ?_
 rintro e W8 ⟨rfl, hB⟩
 replace Hl := Aside0.mk (Kd.C_below Hl.out hB)
 replace Hr := Aside0.mk (Kd.C_below Hr.out hB)
 replace Hp := Aside0.mk (Kd.C_below Hp.out hB)
 replace Hq := Aside0.mk (Kd.C_below Hq.out hB)
 replace Hx := Aside0.mk (Kd.C_below Hx.out hB)
 replace Hw := Aside0.mk (Kd.C_below Hw.out hB)
 replace Hs := Aside0.mk (Kd.C_below Hs.out hB)
 replace Ht := Aside0.mk (Kd.C_below Ht.out hB)
 replace Hy := Aside0.mk (Kd.C_below Hy.out hB)
 replace HB := Aside0.mk (below_step HB.out hB)
 clear hB
 clear Hp Lp Hq Lq Hs Ls Ht Lt Hl Hr Ll Lr F0 F1 F2 F3 F4 F5 Z0 Z1 Z2
 have hlen : y.length = x.length := by rw [EX.out, EY.out, List.length_map, List.length_map, List.length_map]
 rw [hlen]
 have HLEN := Aside0.mk hlen
 clear hlen
 rcases FC.out with ⟨rfl, rfl, hnil⟩ | ⟨rfl, rfl, hlk⟩
 rotate_left
 ·have HLK := Aside0.mk hlk
  clear hlk
  go_wp2_with fail
  refine (tripartitelaw06_From.calls k6 Ax cx x cs _ Hx.out Lx.out F6.out).mono ?_
  rintro e W9 ⟨v0_, rfl, hR, hB⟩
  replace Hx := Aside0.mk (Kd.C_below Hx.out hB)
  replace Hw := Aside0.mk (Kd.C_below Hw.out hB)
  replace Hy := Aside0.mk (Kd.C_below Hy.out hB)
  replace HB := Aside0.mk (below_step HB.out hB)
  obtain ⟨Af, cf, rfl, hcX, hCX⟩ := Kd.R_reads hR
  have Hf := Aside0.mk hCX
  have Lf := Aside0.mk hcX
  clear hR hB hCX hcX
  go_wp2_with fail
  refine (tripartitelaw06_Same.calls k7 Af cf cs Aw cw cs true _ Hf.out Lf.out Hw.out Lw.out F7.out).mono ?_
  rintro e W10 ⟨rfl, hD⟩
  have hB := Drawn0.below hD
  replace Hx := Aside0.mk (Kd.C_below Hx.out hB)
  replace Hw := Aside0.mk (Kd.C_below Hw.out hB)
  replace Hy := Aside0.mk (Kd.C_below Hy.out hB)
  replace Hf := Aside0.mk (Kd.C_below Hf.out hB)
  replace HB := Aside0.mk (below_step HB.out hB)
  clear hB hD
  go_wp2_with fail
  have hxl : (x.length : Int) = cs.length := by rw [EX.out, List.length_map]
  have hyl : (y.length : Int) = cs.length := by rw [EY.out, List.length_map, List.length_map]
  have XL := Aside0.mk hxl
  have YL := Aside0.mk hyl
  clear hxl hyl
  go_loopg [17] cs.length (fun kq v17 wr => ∃ (i t0 t1 t2 : Int) (p : Option Bool), v17 = .int .i64 i ∧ Aside0 (0 ≤ i ∧ i + kq = cs.length) ∧ Aside0 (wr.heap[W10.heap.size]? = some (.cells #[.int .i64 t0, .int .i64 t1, .int .i64 t2] 65 (0, 0))) ∧ Aside0 (Below W10.heap.size W10 wr) ∧ Aside0 (Linked base left right p t0 t1 t2 (cs.drop i.toNat)) ∧ Aside0 (0 < i → p = some (rd_T81 cs (i - 1)).f0))
  case atStart => exact ⟨0, 0, 0, 0, none, rfl, ⟨Int.le_refl _, by simp⟩, ⟨blk_new W10 _⟩, ⟨below_alloc (Below.refl _ _) _⟩, ⟨by simpa using HLK.out⟩, ⟨fun h => absurd h (by decide)⟩⟩
  case round =>
   obtain ⟨i, t0, t1, t2, p, rfl, HI, HA, HW, HL, HP⟩ := hrel
   cases gk with
   | zero =>
    have hi9 : i = cs.length := by have := HI.out.2; omega
    obtain ⟨e0, e1, e2⟩ := link_end hi9 HL.out
    have hd : decide (i < (x.length : Int)) = false := decide_eq_false (by rw [XL.out]; omega)
    subst e0 e1 e2
    have ha0 := (blk_cell HA.out 0).trans (show _ = some (Value.int .i64 t0) from rfl)
    have ha1 := (blk_cell HA.out 1).trans (show _ = some (Value.int .i64 t1) from rfl)
    have ha2 := (blk_cell HA.out 2).trans (show _ = some (Value.int .i64 t2) from rfl)
    obtain ⟨p0, p1, p2, p3, p4, p5⟩ := BB.out
    have hEq : ∀ W, Sem.run Try.prog (Op.equalIn 10000 65 (.agg #[.int .i64 t0, .int .i64 t1, .int .i64 t2]) (.agg #[.int .i64 t0, .int .i64 t1, .int .i64 t2])) W = Result.ok true W := fun W => arr_eq65 p0 p1 p2 p3 p4 p5 W
    clear hi9 p0 p1 p2 p3 p4 p5
    go_wp2_with fail
    go_ret
    exact ⟨rfl, below_step HB.out HW.out⟩
   | succ k1 =>
    have hi0 := HI.out.1
    have hi1 : i < (x.length : Int) := by rw [XL.out]; have := HI.out.2; omega
    have hi2 : i < (y.length : Int) := by rw [YL.out]; have := HI.out.2; omega
    have hd : decide (i < (x.length : Int)) = true := decide_eq_true hi1
    obtain ⟨st, o2, a2, b2, hxi, hyi, hst, hpv, hrg, hL2⟩ := link_step EX.out EY.out HI.out.1 (by have := HI.out.2; omega) HL.out HP.out
    have HST := Aside0.mk hst
    have HPV := Aside0.mk hpv
    have HRG := Aside0.mk hrg
    have HL2 := Aside0.mk hL2
    clear hst hpv hrg hL2
    obtain ⟨adx, ex, hx0, hx1, hx2, hx3, hx4, hx5, hx6⟩ := at_T78 Hx.out i hi0 hi1
    cases ex
    rw [hxi] at hx0 hx1 hx2 hx3 hx4 hx5 hx6
    simp only at hx0 hx1 hx2 hx3 hx4 hx5 hx6
    replace hx0 := pw_cell_below HW.out hx0
    replace hx1 := pw_cell_below HW.out hx1
    replace hx2 := pw_cell_below HW.out hx2
    replace hx3 := pw_cell_below HW.out hx3
    replace hx4 := pw_cell_below HW.out hx4
    replace hx5 := pw_cell_below HW.out hx5
    replace hx6 := pw_cell_below HW.out hx6
    clear hxi
    have EYI := Aside0.mk hyi
    clear hyi
    go_wp2_with fail
    refine alloc_gen11 (P := fun W => Code.wp _ _ _ _ W) (fun Wc hblk hbc => ?_)
    obtain ⟨ady, ey, hy0, hy1, hy2, hy3, hy4, hy5, hy6⟩ := at_T78 Hy.out i hi0 hi2
    cases ey
    rw [EYI.out] at hy0 hy1 hy2 hy3 hy4 hy5 hy6
    simp only at hy0 hy1 hy2 hy3 hy4 hy5 hy6
    replace hy0 := pw_cell_below hbc (pw_cell_below HW.out hy0)
    replace hy1 := pw_cell_below hbc (pw_cell_below HW.out hy1)
    replace hy2 := pw_cell_below hbc (pw_cell_below HW.out hy2)
    replace hy3 := pw_cell_below hbc (pw_cell_below HW.out hy3)
    replace hy4 := pw_cell_below hbc (pw_cell_below HW.out hy4)
    replace hy5 := pw_cell_below hbc (pw_cell_below HW.out hy5)
    replace hy6 := pw_cell_below hbc (pw_cell_below HW.out hy6)
    have hc0 := (blk_cell hblk 0).trans (show _ = some (Value.bool st) from rfl)
    have hc1 := (blk_cell hblk 1).trans (show _ = some (Value.int .i64 t0) from rfl)
    have hc2 := (blk_cell hblk 2).trans (show _ = some (Value.int .i64 o2) from rfl)
    have hc3 := (blk_cell hblk 3).trans (show _ = some (Value.int .i64 t1) from rfl)
    have hc4 := (blk_cell hblk 4).trans (show _ = some (Value.int .i64 a2) from rfl)
    have hc5 := (blk_cell hblk 5).trans (show _ = some (Value.int .i64 t2) from rfl)
    have hc6 := (blk_cell hblk 6).trans (show _ = some (Value.int .i64 b2) from rfl)
    have hA2 := blk_below HA.out hbc
    have ha0 := (blk_cell hA2 0).trans (show _ = some (Value.int .i64 t0) from rfl)
    have ha1 := (blk_cell hA2 1).trans (show _ = some (Value.int .i64 t1) from rfl)
    have ha2 := (blk_cell hA2 2).trans (show _ = some (Value.int .i64 t2) from rfl)
    have HBK := Aside0.mk hblk
    have HA2 := Aside0.mk hA2
    have HBC := Aside0.mk hbc
    have hyl : (i < (x.length : Int)) := hi1
    clear hx0 hx1 hx2 hx3 hx4 hx5 hx6 hblk hA2 hd hi2
    by_cases h0 : 0 < i
    ·have hgt : decide (i > 0) = true := decide_eq_true h0
     have hgt2 : decide (0 < i) = true := decide_eq_true h0
     obtain ⟨im, him⟩ : ∃ im, im = i - 1 := ⟨_, rfl⟩
     have hwm : IntKind.i64.wrap (i - 1) = im := by rw [i64_w, Jdg.w64 (by have := HI.out.2; have := FN.out; omega) (by have := HI.out.2; have := FN.out; omega), him]
     have him0 : 0 ≤ im := by omega
     have him1 : im < (x.length : Int) := by omega
     obtain ⟨adp, ep, hp0, _⟩ := at_T78 Hx.out im him0 him1
     cases ep
     replace hp0 := pw_cell_below hbc (pw_cell_below HW.out hp0)
     obtain ⟨ps, hps⟩ : ∃ ps, ps = (rd_T78 x im).f0 := ⟨_, rfl⟩
     have hpne : ps ≠ st := by rw [hps, him]; exact HPV.out h0
     rw [← hps] at hp0
     have hpb : (ps == st) = false := beq_eq_false_iff_ne.mpr hpne
     have hpd : decide (ps = st) = false := decide_eq_false hpne
     have HBC0 := HBC.out
     clear hps hpne him HBC0
     clear h0
     have HH := Aside0.mk (below_drew (Below.refl Wc.heap.size Wc))
     refine wp_region_held_drew (S := fun w' => w'.cell? (ady.add (i.toNat * 7)) = some (.bool st) ∧ w'.cell? ⟨(ady.add (i.toNat * 7)).block, (ady.add (i.toNat * 7)).off + 1, none⟩ = some (.int .i64 t0) ∧ w'.cell? ⟨(ady.add (i.toNat * 7)).block, (ady.add (i.toNat * 7)).off + 2, none⟩ = some (.int .i64 o2) ∧ w'.cell? ⟨(ady.add (i.toNat * 7)).block, (ady.add (i.toNat * 7)).off + 3, none⟩ = some (.int .i64 t2) ∧ w'.cell? ⟨(ady.add (i.toNat * 7)).block, (ady.add (i.toNat * 7)).off + 4, none⟩ = some (.int .i64 b2) ∧ w'.cell? ⟨(ady.add (i.toNat * 7)).block, (ady.add (i.toNat * 7)).off + 5, none⟩ = some (.int .i64 t1) ∧ w'.cell? ⟨(ady.add (i.toNat * 7)).block, (ady.add (i.toNat * 7)).off + 6, none⟩ = some (.int .i64 a2) ∧ w'.cell? ⟨wr.heap.size, 0, none⟩ = some (.bool st) ∧ w'.cell? ⟨wr.heap.size, 1, none⟩ = some (.int .i64 t0) ∧ w'.cell? ⟨wr.heap.size, 2, none⟩ = some (.int .i64 o2) ∧ w'.cell? ⟨wr.heap.size, 3, none⟩ = some (.int .i64 t1) ∧ w'.cell? ⟨wr.heap.size, 4, none⟩ = some (.int .i64 a2) ∧ w'.cell? ⟨wr.heap.size, 5, none⟩ = some (.int .i64 t2) ∧ w'.cell? ⟨wr.heap.size, 6, none⟩ = some (.int .i64 b2) ∧ w'.cell? ⟨W10.heap.size, 0, none⟩ = some (.int .i64 t0) ∧ w'.cell? ⟨W10.heap.size, 1, none⟩ = some (.int .i64 t1) ∧ w'.cell? ⟨W10.heap.size, 2, none⟩ = some (.int .i64 t2) ∧ w'.cell? (adx.add (im.toNat * 7)) = some (.bool ps)) (by kernel_rfl) ⟨hy0, hy1, hy2, hy3, hy4, hy5, hy6, hc0, hc1, hc2, hc3, hc4, hc5, hc6, ha0, ha1, ha2, hp0⟩ (fun hHeld => ?_)
     refine wpAnyH_take (i := 0) (v := ?_) (by (try simp only [List.getElem?_toArray, List.getElem?_cons_succ, List.getElem?_cons_zero]); exact rfl) (by kernel_rfl) (by kernel_rfl) (by kernel_rfl) (by exact fun _ _ _ h => h) (Or.inl ⟨by rfl, ?_⟩) hHeld ?_
     rotate_left
     ·intro w hSw
      (try dsimp only at hSw)
      go_simp
      try with_reducible rfl
     try simp only [Act.put, List.setIfInBounds_toArray, List.set_cons_zero, List.set_cons_succ]
     refine wpAnyH_take (i := 1) (v := ?_) (by (try simp only [List.getElem?_toArray, List.getElem?_cons_succ, List.getElem?_cons_zero]); exact rfl) (by kernel_rfl) (by kernel_rfl) (by kernel_rfl) (by exact fun _ _ _ h => h) (Or.inl ⟨by rfl, ?_⟩) hHeld ?_
     rotate_left
     ·intro w hSw
      (try dsimp only at hSw)
      go_simp
      try with_reducible rfl
     try simp only [Act.put, List.setIfInBounds_toArray, List.set_cons_zero, List.set_cons_succ]
     refine wpAnyH_take (i := 2) (v := ?_) (by (try simp only [List.getElem?_toArray, List.getElem?_cons_succ, List.getElem?_cons_zero]); exact rfl) (by kernel_rfl) (by kernel_rfl) (by kernel_rfl) (by exact fun _ _ _ h => h) (Or.inl ⟨by rfl, ?_⟩) hHeld ?_
     rotate_left
     ·intro w hSw
      (try dsimp only at hSw)
      go_simp
      try with_reducible rfl
     try simp only [Act.put, List.setIfInBounds_toArray, List.set_cons_zero, List.set_cons_succ]
     refine wpAnyH_take (i := 3) (v := ?_) (by (try simp only [List.getElem?_toArray, List.getElem?_cons_succ, List.getElem?_cons_zero]); exact rfl) (by kernel_rfl) (by kernel_rfl) (by kernel_rfl) (by exact fun _ _ _ h => h) (Or.inl ⟨by rfl, ?_⟩) hHeld ?_
     rotate_left
     ·intro w hSw
      (try dsimp only at hSw)
      go_simp
      try with_reducible rfl
     try simp only [Act.put, List.setIfInBounds_toArray, List.set_cons_zero, List.set_cons_succ]
     refine wpAnyH_take (i := 6) (v := ?_) (by (try simp only [List.getElem?_toArray, List.getElem?_cons_succ, List.getElem?_cons_zero]); exact rfl) (by kernel_rfl) (by kernel_rfl) (by kernel_rfl) (by exact fun _ _ _ h => h) (Or.inl ⟨by rfl, ?_⟩) hHeld ?_
     rotate_left
     ·intro w hSw
      (try dsimp only at hSw)
      go_simp
      try with_reducible rfl
     try simp only [Act.put, List.setIfInBounds_toArray, List.set_cons_zero, List.set_cons_succ]
     refine wpAnyH_ready (rs := [4]) (by kernel_rfl) (by simp) ?_
     refine AllReadyH.cons rfl (fun K hK => ?_) AllReadyH.nil
     go_simp
     go_at_call 55
     refine (chunk_Chunk_Turned.calls st t0 o2 t2 b2 t1 a2 st t0 o2 t1 a2 t2 b2 _ rfl).mono ?_
     rintro e w' ⟨rfl, hb⟩
     replace HH := Aside0.mk (below_step HH.out hb)
     refine hK.out _ _ (hold18 hb hHeld) (fun hHeld => ?_)
     clear hb hK K
     try simp only [Act.put, List.setIfInBounds_toArray, List.set_cons_zero, List.set_cons_succ]
     refine wpAnyH_ready (rs := [5]) (by kernel_rfl) (by simp) ?_
     refine AllReadyH.cons rfl (fun K hK => ?_) AllReadyH.nil
     go_simp
     go_at_call 54
     refine (tripartitelaw06_one.calls st t0 o2 t1 a2 t2 b2 st t0 o2 t1 a2 t2 b2 _ rfl).mono ?_
     rintro e w' ⟨rfl, hb⟩
     replace HH := Aside0.mk (below_step HH.out hb)
     refine hK.out _ _ (hold18 hb hHeld) (fun hHeld => ?_)
     clear hb hK K
     try simp only [Act.put, List.setIfInBounds_toArray, List.set_cons_zero, List.set_cons_succ]
     refine wpAnyH_ready (rs := [7]) (by kernel_rfl) (by simp) ?_
     refine AllReadyH.cons rfl (fun K hK => ?_) AllReadyH.nil
     go_simp
     go_at_call 54
     refine (tripartitelaw06_one.calls st t0 o2 t1 a2 t2 b2 st t0 o2 t1 a2 t2 b2 _ rfl).mono ?_
     rintro e w' ⟨rfl, hb⟩
     replace HH := Aside0.mk (below_step HH.out hb)
     refine hK.out _ _ (hold18 hb hHeld) (fun hHeld => ?_)
     clear hb hK K
     try simp only [Act.put, List.setIfInBounds_toArray, List.set_cons_zero, List.set_cons_succ]
     refine wpAnyH_take (i := 8) (v := ?_) (by (try simp only [List.getElem?_toArray, List.getElem?_cons_succ, List.getElem?_cons_zero]); exact rfl) (by kernel_rfl) (by kernel_rfl) (by kernel_rfl) (by exact fun _ _ _ h => h) (Or.inl ⟨by rfl, ?_⟩) hHeld ?_
     rotate_left
     ·intro w hSw
      (try dsimp only at hSw)
      go_simp
      try with_reducible rfl
     try simp only [Act.put, List.setIfInBounds_toArray, List.set_cons_zero, List.set_cons_succ]
     refine wpAnyH_take (i := 9) (v := ?_) (by (try simp only [List.getElem?_toArray, List.getElem?_cons_succ, List.getElem?_cons_zero]); exact rfl) (by kernel_rfl) (by kernel_rfl) (by kernel_rfl) (by exact fun _ _ _ h => h) (Or.inl ⟨by rfl, ?_⟩) hHeld ?_
     rotate_left
     ·intro w hSw
      (try dsimp only at hSw)
      go_simp
      try with_reducible rfl
     try simp only [Act.put, List.setIfInBounds_toArray, List.set_cons_zero, List.set_cons_succ]
     refine wpAnyH_take (i := 10) (v := ?_) (by (try simp only [List.getElem?_toArray, List.getElem?_cons_succ, List.getElem?_cons_zero]); exact rfl) (by kernel_rfl) (by kernel_rfl) (by kernel_rfl) (by exact fun _ _ _ h => h) (Or.inl ⟨by rfl, ?_⟩) hHeld ?_
     rotate_left
     ·intro w hSw
      (try dsimp only at hSw)
      go_simp
      try with_reducible rfl
     try simp only [Act.put, List.setIfInBounds_toArray, List.set_cons_zero, List.set_cons_succ]
     refine wpAnyH_take (i := 11) (v := ?_) (by (try simp only [List.getElem?_toArray, List.getElem?_cons_succ, List.getElem?_cons_zero]); exact rfl) (by kernel_rfl) (by kernel_rfl) (by kernel_rfl) (by exact fun _ _ _ h => h) (Or.inl ⟨by rfl, ?_⟩) hHeld ?_
     rotate_left
     ·intro w hSw
      (try dsimp only at hSw)
      go_simp
      try with_reducible rfl
     try simp only [Act.put, List.setIfInBounds_toArray, List.set_cons_zero, List.set_cons_succ]
     refine wpAnyH_take (i := 12) (v := ?_) (by (try simp only [List.getElem?_toArray, List.getElem?_cons_succ, List.getElem?_cons_zero]); exact rfl) (by kernel_rfl) (by kernel_rfl) (by kernel_rfl) (by exact fun _ _ _ h => h) (Or.inl ⟨by rfl, ?_⟩) hHeld ?_
     rotate_left
     ·intro w hSw
      (try dsimp only at hSw)
      go_simp
      try with_reducible rfl
     try simp only [Act.put, List.setIfInBounds_toArray, List.set_cons_zero, List.set_cons_succ]
     refine wpAnyH_take (i := 13) (v := ?_) (by (try simp only [List.getElem?_toArray, List.getElem?_cons_succ, List.getElem?_cons_zero]); exact rfl) (by kernel_rfl) (by kernel_rfl) (by kernel_rfl) (by exact fun _ _ _ h => h) (Or.inl ⟨by rfl, ?_⟩) hHeld ?_
     rotate_left
     ·intro w hSw
      (try dsimp only at hSw)
      go_simp
      try with_reducible rfl
     try simp only [Act.put, List.setIfInBounds_toArray, List.set_cons_zero, List.set_cons_succ]
     refine wpAnyH_take (i := 14) (v := ?_) (by (try simp only [List.getElem?_toArray, List.getElem?_cons_succ, List.getElem?_cons_zero]); exact rfl) (by kernel_rfl) (by kernel_rfl) (by kernel_rfl) (by exact fun _ _ _ h => h) (Or.inl ⟨by rfl, ?_⟩) hHeld ?_
     rotate_left
     ·intro w hSw
      (try dsimp only at hSw)
      go_simp
      try with_reducible rfl
     try simp only [Act.put, List.setIfInBounds_toArray, List.set_cons_zero, List.set_cons_succ]
     refine wpAnyH_take (i := 15) (v := ?_) (by (try simp only [List.getElem?_toArray, List.getElem?_cons_succ, List.getElem?_cons_zero]); exact rfl) (by kernel_rfl) (by kernel_rfl) (by kernel_rfl) (by exact fun _ _ _ h => h) (Or.inl ⟨by rfl, ?_⟩) hHeld ?_
     rotate_left
     ·intro w hSw
      (try dsimp only at hSw)
      go_simp
      try with_reducible rfl
     try simp only [Act.put, List.setIfInBounds_toArray, List.set_cons_zero, List.set_cons_succ]
     refine wpAnyH_take (i := 16) (v := ?_) (by (try simp only [List.getElem?_toArray, List.getElem?_cons_succ, List.getElem?_cons_zero]); exact rfl) (by kernel_rfl) (by kernel_rfl) (by kernel_rfl) (by exact fun _ _ _ h => h) (Or.inl ⟨by rfl, ?_⟩) hHeld ?_
     rotate_left
     ·intro w hSw
      (try dsimp only at hSw)
      go_simp
      try with_reducible rfl
     try simp only [Act.put, List.setIfInBounds_toArray, List.set_cons_zero, List.set_cons_succ]
     refine wpAnyH_take (i := 17) (v := ?_) (by (try simp only [List.getElem?_toArray, List.getElem?_cons_succ, List.getElem?_cons_zero]); exact rfl) (by kernel_rfl) (by kernel_rfl) (by kernel_rfl) (by exact fun _ _ _ h => h) (Or.inl ⟨by rfl, ?_⟩) hHeld ?_
     rotate_left
     ·intro w hSw
      (try dsimp only at hSw)
      go_simp
      try with_reducible rfl
     try simp only [Act.put, List.setIfInBounds_toArray, List.set_cons_zero, List.set_cons_succ]
     refine wpAnyH_take (i := 18) (v := ?_) (by (try simp only [List.getElem?_toArray, List.getElem?_cons_succ, List.getElem?_cons_zero]); exact rfl) (by kernel_rfl) (by kernel_rfl) (by kernel_rfl) (by exact fun _ _ _ h => h) (Or.inl ⟨by rfl, ?_⟩) hHeld ?_
     rotate_left
     ·intro w hSw
      (try dsimp only at hSw)
      go_simp
      try with_reducible rfl
     try simp only [Act.put, List.setIfInBounds_toArray, List.set_cons_zero, List.set_cons_succ]
     refine wpAnyH_take (i := 19) (v := ?_) (by (try simp only [List.getElem?_toArray, List.getElem?_cons_succ, List.getElem?_cons_zero]); exact rfl) (by kernel_rfl) (by kernel_rfl) (by kernel_rfl) (by exact fun _ _ _ h => h) (Or.inl ⟨by rfl, ?_⟩) hHeld ?_
     rotate_left
     ·intro w hSw
      (try dsimp only at hSw)
      go_simp
      try with_reducible rfl
     try simp only [Act.put, List.setIfInBounds_toArray, List.set_cons_zero, List.set_cons_succ]
     refine wpAnyH_take (i := 20) (v := ?_) (by (try simp only [List.getElem?_toArray, List.getElem?_cons_succ, List.getElem?_cons_zero]); exact rfl) (by kernel_rfl) (by kernel_rfl) (by kernel_rfl) (by exact fun _ _ _ h => h) (Or.inl ⟨by rfl, ?_⟩) hHeld ?_
     rotate_left
     ·intro w hSw
      (try dsimp only at hSw)
      go_simp
      try with_reducible rfl
     try simp only [Act.put, List.setIfInBounds_toArray, List.set_cons_zero, List.set_cons_succ]
     refine wpAnyH_take (i := 21) (v := ?_) (by (try simp only [List.getElem?_toArray, List.getElem?_cons_succ, List.getElem?_cons_zero]); exact rfl) (by kernel_rfl) (by kernel_rfl) (by kernel_rfl) (by exact fun _ _ _ h => h) (Or.inl ⟨by rfl, ?_⟩) hHeld ?_
     rotate_left
     ·intro w hSw
      (try dsimp only at hSw)
      go_simp
      try with_reducible rfl
     try simp only [Act.put, List.setIfInBounds_toArray, List.set_cons_zero, List.set_cons_succ]
     refine wpAnyH_take (i := 22) (v := ?_) (by (try simp only [List.getElem?_toArray, List.getElem?_cons_succ, List.getElem?_cons_zero]); exact rfl) (by kernel_rfl) (by kernel_rfl) (by kernel_rfl) (by exact fun _ _ _ h => h) (Or.inl ⟨by rfl, ?_⟩) hHeld ?_
     rotate_left
     ·intro w hSw
      (try dsimp only at hSw)
      go_simp
      try with_reducible rfl
     try simp only [Act.put, List.setIfInBounds_toArray, List.set_cons_zero, List.set_cons_succ]
     refine wpAnyH_take (i := 23) (v := ?_) (by (try simp only [List.getElem?_toArray, List.getElem?_cons_succ, List.getElem?_cons_zero]); exact rfl) (by kernel_rfl) (by kernel_rfl) (by kernel_rfl) (by exact fun _ _ _ h => h) (Or.inl ⟨by rfl, ?_⟩) hHeld ?_
     rotate_left
     ·intro w hSw
      (try dsimp only at hSw)
      go_simp
      try with_reducible rfl
     try simp only [Act.put, List.setIfInBounds_toArray, List.set_cons_zero, List.set_cons_succ]
     refine wpAnyH_take (i := 24) (v := ?_) (by (try simp only [List.getElem?_toArray, List.getElem?_cons_succ, List.getElem?_cons_zero]); exact rfl) (by kernel_rfl) (by kernel_rfl) (by kernel_rfl) (by exact fun _ _ _ h => h) (Or.inl ⟨by rfl, ?_⟩) hHeld ?_
     rotate_left
     ·intro w hSw
      (try dsimp only at hSw)
      go_simp
      try with_reducible rfl
     try simp only [Act.put, List.setIfInBounds_toArray, List.set_cons_zero, List.set_cons_succ]
     refine wpAnyH_take (i := 25) (v := ?_) (by (try simp only [List.getElem?_toArray, List.getElem?_cons_succ, List.getElem?_cons_zero]); exact rfl) (by kernel_rfl) (by kernel_rfl) (by kernel_rfl) (by exact fun _ _ _ h => h) (Or.inl ⟨by rfl, ?_⟩) hHeld ?_
     rotate_left
     ·intro w hSw
      (try dsimp only at hSw)
      go_simp
      try with_reducible rfl
     try simp only [Act.put, List.setIfInBounds_toArray, List.set_cons_zero, List.set_cons_succ]
     refine wpAnyH_take (i := 26) (v := ?_) (by (try simp only [List.getElem?_toArray, List.getElem?_cons_succ, List.getElem?_cons_zero]); exact rfl) (by kernel_rfl) (by kernel_rfl) (by kernel_rfl) (by exact fun _ _ _ h => h) (Or.inl ⟨by rfl, ?_⟩) hHeld ?_
     rotate_left
     ·intro w hSw
      (try dsimp only at hSw)
      go_simp
      try with_reducible rfl
     try simp only [Act.put, List.setIfInBounds_toArray, List.set_cons_zero, List.set_cons_succ]
     refine wpAnyH_take (i := 27) (v := ?_) (by (try simp only [List.getElem?_toArray, List.getElem?_cons_succ, List.getElem?_cons_zero]); exact rfl) (by kernel_rfl) (by kernel_rfl) (by kernel_rfl) (by exact fun _ _ _ h => h) (Or.inl ⟨by rfl, ?_⟩) hHeld ?_
     rotate_left
     ·intro w hSw
      (try dsimp only at hSw)
      go_simp
      try with_reducible rfl
     try simp only [Act.put, List.setIfInBounds_toArray, List.set_cons_zero, List.set_cons_succ]
     refine wpAnyH_take (i := 28) (v := ?_) (by (try simp only [List.getElem?_toArray, List.getElem?_cons_succ, List.getElem?_cons_zero]); exact rfl) (by kernel_rfl) (by kernel_rfl) (by kernel_rfl) (by exact fun _ _ _ h => h) (Or.inl ⟨by rfl, ?_⟩) hHeld ?_
     rotate_left
     ·intro w hSw
      (try dsimp only at hSw)
      go_simp
      try with_reducible rfl
     try simp only [Act.put, List.setIfInBounds_toArray, List.set_cons_zero, List.set_cons_succ]
     refine wpAnyH_take (i := 29) (v := ?_) (by (try simp only [List.getElem?_toArray, List.getElem?_cons_succ, List.getElem?_cons_zero]); exact rfl) (by kernel_rfl) (by kernel_rfl) (by kernel_rfl) (by exact fun _ _ _ h => h) (Or.inl ⟨by rfl, ?_⟩) hHeld ?_
     rotate_left
     ·intro w hSw
      (try dsimp only at hSw)
      go_simp
      try with_reducible rfl
     try simp only [Act.put, List.setIfInBounds_toArray, List.set_cons_zero, List.set_cons_succ]
     refine wpAnyH_take (i := 30) (v := ?_) (by (try simp only [List.getElem?_toArray, List.getElem?_cons_succ, List.getElem?_cons_zero]); exact rfl) (by kernel_rfl) (by kernel_rfl) (by kernel_rfl) (by exact fun _ _ _ h => h) (Or.inl ⟨by rfl, ?_⟩) hHeld ?_
     rotate_left
     ·intro w hSw
      (try dsimp only at hSw)
      go_simp
      try with_reducible rfl
     try simp only [Act.put, List.setIfInBounds_toArray, List.set_cons_zero, List.set_cons_succ]
     refine wpAnyH_take (i := 31) (v := ?_) (by (try simp only [List.getElem?_toArray, List.getElem?_cons_succ, List.getElem?_cons_zero]); exact rfl) (by kernel_rfl) (by kernel_rfl) (by kernel_rfl) (by exact fun _ _ _ h => h) (Or.inl ⟨by rfl, ?_⟩) hHeld ?_
     rotate_left
     ·intro w hSw
      (try dsimp only at hSw)
      go_simp
      try with_reducible rfl
     try simp only [Act.put, List.setIfInBounds_toArray, List.set_cons_zero, List.set_cons_succ]
     refine wpAnyH_take (i := 32) (v := ?_) (by (try simp only [List.getElem?_toArray, List.getElem?_cons_succ, List.getElem?_cons_zero]); exact rfl) (by kernel_rfl) (by kernel_rfl) (by kernel_rfl) (by exact fun _ _ _ h => h) (Or.inl ⟨by rfl, ?_⟩) hHeld ?_
     rotate_left
     ·intro w hSw
      (try dsimp only at hSw)
      go_simp
      try with_reducible rfl
     try simp only [Act.put, List.setIfInBounds_toArray, List.set_cons_zero, List.set_cons_succ]
     refine wpAnyH_take (i := 33) (v := ?_) (by (try simp only [List.getElem?_toArray, List.getElem?_cons_succ, List.getElem?_cons_zero]); exact rfl) (by kernel_rfl) (by kernel_rfl) (by kernel_rfl) (by exact fun _ _ _ h => h) (Or.inl ⟨by rfl, ?_⟩) hHeld ?_
     rotate_left
     ·intro w hSw
      (try dsimp only at hSw)
      go_simp
      try with_reducible rfl
     try simp only [Act.put, List.setIfInBounds_toArray, List.set_cons_zero, List.set_cons_succ]
     refine wpAnyH_take (i := 34) (v := ?_) (by (try simp only [List.getElem?_toArray, List.getElem?_cons_succ, List.getElem?_cons_zero]); exact rfl) (by kernel_rfl) (by kernel_rfl) (by kernel_rfl) (by exact fun _ _ _ h => h) (Or.inl ⟨by rfl, ?_⟩) hHeld ?_
     rotate_left
     ·intro w hSw
      (try dsimp only at hSw)
      go_simp
      try with_reducible rfl
     try simp only [Act.put, List.setIfInBounds_toArray, List.set_cons_zero, List.set_cons_succ]
     refine wpAnyH_take (i := 35) (v := ?_) (by (try simp only [List.getElem?_toArray, List.getElem?_cons_succ, List.getElem?_cons_zero]); exact rfl) (by kernel_rfl) (by kernel_rfl) (by kernel_rfl) (by exact fun _ _ _ h => h) (Or.inl ⟨by rfl, ?_⟩) hHeld ?_
     rotate_left
     ·intro w hSw
      (try dsimp only at hSw)
      go_simp
      try with_reducible rfl
     try simp only [Act.put, List.setIfInBounds_toArray, List.set_cons_zero, List.set_cons_succ]
     refine wpAnyH_take (i := 36) (v := ?_) (by (try simp only [List.getElem?_toArray, List.getElem?_cons_succ, List.getElem?_cons_zero]); exact rfl) (by kernel_rfl) (by kernel_rfl) (by kernel_rfl) (by exact fun _ _ _ h => h) (Or.inl ⟨by rfl, ?_⟩) hHeld ?_
     rotate_left
     ·intro w hSw
      (try dsimp only at hSw)
      go_simp
      try with_reducible rfl
     try simp only [Act.put, List.setIfInBounds_toArray, List.set_cons_zero, List.set_cons_succ]
     refine wpAnyH_take (i := 37) (v := ?_) (by (try simp only [List.getElem?_toArray, List.getElem?_cons_succ, List.getElem?_cons_zero]); exact rfl) (by kernel_rfl) (by kernel_rfl) (by kernel_rfl) (by exact fun _ _ _ h => h) (Or.inl ⟨by rfl, ?_⟩) hHeld ?_
     rotate_left
     ·intro w hSw
      (try dsimp only at hSw)
      go_simp
      try with_reducible rfl
     try simp only [Act.put, List.setIfInBounds_toArray, List.set_cons_zero, List.set_cons_succ]
     refine wpAnyH_take (i := 38) (v := ?_) (by (try simp only [List.getElem?_toArray, List.getElem?_cons_succ, List.getElem?_cons_zero]); exact rfl) (by kernel_rfl) (by kernel_rfl) (by kernel_rfl) (by exact fun _ _ _ h => h) (Or.inl ⟨by rfl, ?_⟩) hHeld ?_
     rotate_left
     ·intro w hSw
      (try dsimp only at hSw)
      go_simp
      try with_reducible rfl
     try simp only [Act.put, List.setIfInBounds_toArray, List.set_cons_zero, List.set_cons_succ]
     refine wpAnyH_take (i := 39) (v := ?_) (by (try simp only [List.getElem?_toArray, List.getElem?_cons_succ, List.getElem?_cons_zero]); exact rfl) (by kernel_rfl) (by kernel_rfl) (by kernel_rfl) (by exact fun _ _ _ h => h) (Or.inl ⟨by rfl, ?_⟩) hHeld ?_
     rotate_left
     ·intro w hSw
      (try dsimp only at hSw)
      go_simp
      try with_reducible rfl
     try simp only [Act.put, List.setIfInBounds_toArray, List.set_cons_zero, List.set_cons_succ]
     refine wpAnyH_take (i := 40) (v := ?_) (by (try simp only [List.getElem?_toArray, List.getElem?_cons_succ, List.getElem?_cons_zero]); exact rfl) (by kernel_rfl) (by kernel_rfl) (by kernel_rfl) (by exact fun _ _ _ h => h) (Or.inl ⟨by rfl, ?_⟩) hHeld ?_
     rotate_left
     ·intro w hSw
      (try dsimp only at hSw)
      go_simp
      try with_reducible rfl
     try simp only [Act.put, List.setIfInBounds_toArray, List.set_cons_zero, List.set_cons_succ]
     refine wpAnyH_take (i := 41) (v := ?_) (by (try simp only [List.getElem?_toArray, List.getElem?_cons_succ, List.getElem?_cons_zero]); exact rfl) (by kernel_rfl) (by kernel_rfl) (by kernel_rfl) (by exact fun _ _ _ h => h) (Or.inl ⟨by rfl, ?_⟩) hHeld ?_
     rotate_left
     ·intro w hSw
      (try dsimp only at hSw)
      go_simp
      try with_reducible rfl
     try simp only [Act.put, List.setIfInBounds_toArray, List.set_cons_zero, List.set_cons_succ]
     refine wpAnyH_take (i := 42) (v := ?_) (by (try simp only [List.getElem?_toArray, List.getElem?_cons_succ, List.getElem?_cons_zero]); exact rfl) (by kernel_rfl) (by kernel_rfl) (by kernel_rfl) (by exact fun _ _ _ h => h) (Or.inl ⟨by rfl, ?_⟩) hHeld ?_
     rotate_left
     ·intro w hSw
      (try dsimp only at hSw)
      go_simp
      try with_reducible rfl
     try simp only [Act.put, List.setIfInBounds_toArray, List.set_cons_zero, List.set_cons_succ]
     refine wpAnyH_take (i := 43) (v := ?_) (by (try simp only [List.getElem?_toArray, List.getElem?_cons_succ, List.getElem?_cons_zero]); exact rfl) (by kernel_rfl) (by kernel_rfl) (by kernel_rfl) (by exact fun _ _ _ h => h) (Or.inl ⟨by rfl, ?_⟩) hHeld ?_
     rotate_left
     ·intro w hSw
      (try dsimp only at hSw)
      go_simp
      try with_reducible rfl
     try simp only [Act.put, List.setIfInBounds_toArray, List.set_cons_zero, List.set_cons_succ]
     refine wpAnyH_take (i := 44) (v := ?_) (by (try simp only [List.getElem?_toArray, List.getElem?_cons_succ, List.getElem?_cons_zero]); exact rfl) (by kernel_rfl) (by kernel_rfl) (by kernel_rfl) (by exact fun _ _ _ h => h) (Or.inl ⟨by rfl, ?_⟩) hHeld ?_
     rotate_left
     ·intro w hSw
      (try dsimp only at hSw)
      go_simp
      try with_reducible rfl
     try simp only [Act.put, List.setIfInBounds_toArray, List.set_cons_zero, List.set_cons_succ]
     refine wpAnyH_take (i := 45) (v := ?_) (by (try simp only [List.getElem?_toArray, List.getElem?_cons_succ, List.getElem?_cons_zero]); exact rfl) (by kernel_rfl) (by kernel_rfl) (by kernel_rfl) (by exact fun _ _ _ h => h) (Or.inl ⟨by rfl, ?_⟩) hHeld ?_
     rotate_left
     ·intro w hSw
      (try dsimp only at hSw)
      go_simp
      try with_reducible rfl
     try simp only [Act.put, List.setIfInBounds_toArray, List.set_cons_zero, List.set_cons_succ]
     refine wpAnyH_take (i := 46) (v := ?_) (by (try simp only [List.getElem?_toArray, List.getElem?_cons_succ, List.getElem?_cons_zero]); exact rfl) (by kernel_rfl) (by kernel_rfl) (by kernel_rfl) (by exact fun _ _ _ h => h) (Or.inl ⟨by rfl, ?_⟩) hHeld ?_
     rotate_left
     ·intro w hSw
      (try dsimp only at hSw)
      go_simp
      try with_reducible rfl
     try simp only [Act.put, List.setIfInBounds_toArray, List.set_cons_zero, List.set_cons_succ]
     refine wpAnyH_take (i := 47) (v := ?_) (by (try simp only [List.getElem?_toArray, List.getElem?_cons_succ, List.getElem?_cons_zero]); exact rfl) (by kernel_rfl) (by kernel_rfl) (by kernel_rfl) (by exact fun _ _ _ h => h) (Or.inl ⟨by rfl, ?_⟩) hHeld ?_
     rotate_left
     ·intro w hSw
      (try dsimp only at hSw)
      go_simp
      try with_reducible rfl
     try simp only [Act.put, List.setIfInBounds_toArray, List.set_cons_zero, List.set_cons_succ]
     refine wpAnyH_done (by kernel_rfl) ?_ _
     try clear hHeld
     clear hy0 hy1 hy2 hy3 hy4 hy5 hy6 hc0 hc1 hc2 hc3 hc4 hc5 hc6 ha0 ha1 ha2 hp0 hpb hpd hwm him0 him1 hgt hgt2
     have HBK3 := Aside0.mk (blk_below HBK.out HH.out)
     have HA3 := Aside0.mk (blk_below HA2.out HH.out)
     have HW3 := Aside0.mk (below_step (below_step HW.out HBC.out) HH.out)
     have hne : W10.heap.size ≠ wr.heap.size := Nat.ne_of_lt (blk_lt HA.out)
     have hd0 : w'.cell? ⟨wr.heap.size, 0, none⟩ = some (.bool st) := (blk_cell HBK3.out 0).trans rfl
     have hd1 : w'.cell? ⟨wr.heap.size, 1, none⟩ = some (.int .i64 t0) := (blk_cell HBK3.out 1).trans rfl
     have hd2 : w'.cell? ⟨wr.heap.size, 2, none⟩ = some (.int .i64 o2) := (blk_cell HBK3.out 2).trans rfl
     have hd3 : w'.cell? ⟨wr.heap.size, 3, none⟩ = some (.int .i64 t1) := (blk_cell HBK3.out 3).trans rfl
     have hd4 : w'.cell? ⟨wr.heap.size, 4, none⟩ = some (.int .i64 a2) := (blk_cell HBK3.out 4).trans rfl
     have hd5 : w'.cell? ⟨wr.heap.size, 5, none⟩ = some (.int .i64 t2) := (blk_cell HBK3.out 5).trans rfl
     have hd6 : w'.cell? ⟨wr.heap.size, 6, none⟩ = some (.int .i64 b2) := (blk_cell HBK3.out 6).trans rfl
     have hq0 : w'.cell? ⟨W10.heap.size, 0, none⟩ = some (.int .i64 t0) := (blk_cell HA3.out 0).trans rfl
     have hf0 := blk_frozen HA3.out 0
     have hq1 : w'.cell? ⟨W10.heap.size, 1, none⟩ = some (.int .i64 t1) := (blk_cell HA3.out 1).trans rfl
     have hf1 := blk_frozen HA3.out 1
     have hq2 : w'.cell? ⟨W10.heap.size, 2, none⟩ = some (.int .i64 t2) := (blk_cell HA3.out 2).trans rfl
     have hf2 := blk_frozen HA3.out 2
     go_wp2_with fail
     have HA5 := Aside0.mk (blk_put (blk_put (blk_put HA3.out 0 (.int .i64 o2) rfl) 1 (.int .i64 a2) rfl) 2 (.int .i64 b2) rfl)
     have HBK5 := Aside0.mk (blk_far (p := ⟨W10.heap.size, 2, none⟩) (blk_far (p := ⟨W10.heap.size, 1, none⟩) (blk_far (p := ⟨W10.heap.size, 0, none⟩) HBK3.out (Ne.symm hne) (.int .i64 o2)) (Ne.symm hne) (.int .i64 a2)) (Ne.symm hne) (.int .i64 b2))
     have HW5 := Aside0.mk (below_set (j := 2) (v := .int .i64 b2) (below_set (j := 1) (v := .int .i64 a2) (below_set (j := 0) (v := .int .i64 o2) HW3.out (Nat.le_refl _)) (Nat.le_refl _)) (Nat.le_refl _))
     clear hd0 hd1 hd2 hd3 hd4 hd5 hd6 hq0 hq1 hq2 hf0 hf1 hf2 hne
     generalize (((w'.setCell ⟨W10.heap.size, 0, none⟩ (.int .i64 o2)).setCell ⟨W10.heap.size, 1, none⟩ (.int .i64 a2)).setCell ⟨W10.heap.size, 2, none⟩ (.int .i64 b2)) = W5 at HA5 HBK5 HW5 ⊢
     have hd0 : W5.cell? ⟨wr.heap.size, 0, none⟩ = some (.bool st) := (blk_cell HBK5.out 0).trans rfl
     have hd1 : W5.cell? ⟨wr.heap.size, 1, none⟩ = some (.int .i64 t0) := (blk_cell HBK5.out 1).trans rfl
     have hd2 : W5.cell? ⟨wr.heap.size, 2, none⟩ = some (.int .i64 o2) := (blk_cell HBK5.out 2).trans rfl
     have hd3 : W5.cell? ⟨wr.heap.size, 3, none⟩ = some (.int .i64 t1) := (blk_cell HBK5.out 3).trans rfl
     have hd4 : W5.cell? ⟨wr.heap.size, 4, none⟩ = some (.int .i64 a2) := (blk_cell HBK5.out 4).trans rfl
     have hd5 : W5.cell? ⟨wr.heap.size, 5, none⟩ = some (.int .i64 t2) := (blk_cell HBK5.out 5).trans rfl
     have hd6 : W5.cell? ⟨wr.heap.size, 6, none⟩ = some (.int .i64 b2) := (blk_cell HBK5.out 6).trans rfl
     obtain ⟨q0, q1, q2, q3, q4, q5, q6, q7, q8, q9⟩ := HRG.out
     obtain ⟨p0, p1, p2, p3, p4, p5⟩ := BB.out
     obtain ⟨n1, hn1⟩ : ∃ n, n = o2 - t0 := ⟨_, rfl⟩
     obtain ⟨n2, hn2⟩ : ∃ n, n = a2 - t1 := ⟨_, rfl⟩
     obtain ⟨n3, hn3⟩ : ∃ n, n = b2 - t2 := ⟨_, rfl⟩
     obtain ⟨n12, hn12⟩ : ∃ n, n = n1 + n2 := ⟨_, rfl⟩
     obtain ⟨n13, hn13⟩ : ∃ n, n = n12 + n3 := ⟨_, rfl⟩
     have L1 : chunk_Span_Len.f t0 o2 = some n1 := by rw [hn1]; exact len_ok q0 q1 (by omega)
     have L2 : chunk_Span_Len.f t1 a2 = some n2 := by rw [hn2]; exact len_ok q3 q4 (by omega)
     have L3 : chunk_Span_Len.f t2 b2 = some n3 := by rw [hn3]; exact len_ok q6 q7 (by omega)
     have hw1 : IntKind.i64.wrap (n1 + n2) = n12 := by rw [i64_w, Jdg.w64 (by omega) (by omega), hn12]
     have hw2 : IntKind.i64.wrap (n12 + n3) = n13 := by rw [i64_w, Jdg.w64 (by omega) (by omega), hn13]
     have hnz : (n13 == 0) = false := beq_eq_false_iff_ne.mpr (by omega)
     have hnz2 : decide (n13 = 0) = false := decide_eq_false (by omega)
     obtain ⟨i1, hii⟩ : ∃ j, j = i + 1 := ⟨_, rfl⟩
     have hwi : IntKind.i64.wrap (i + 1) = i1 := by rw [i64_w, Jdg.w64 (by have := HI.out.2; have := FN.out; omega) (by have := HI.out.2; have := FN.out; omega), hii]
     have HLL := Aside0.mk (And.intro L1 (And.intro L2 L3))
     have HII := Aside0.mk hii
     clear q0 q1 q2 q3 q4 q5 q6 q7 q8 q9 p0 p1 p2 p3 p4 p5 hn1 hn2 hn3 hn12 hn13 L1 L2 L3 hii
     have HG := Aside0.mk (below_drew (Below.refl W5.heap.size W5))
     go_region_held3 (fun w' => w'.cell? ⟨wr.heap.size, 1, none⟩ = some (.int .i64 t0) ∧ w'.cell? ⟨wr.heap.size, 2, none⟩ = some (.int .i64 o2) ∧ w'.cell? ⟨wr.heap.size, 3, none⟩ = some (.int .i64 t1) ∧ w'.cell? ⟨wr.heap.size, 4, none⟩ = some (.int .i64 a2) ∧ w'.cell? ⟨wr.heap.size, 5, none⟩ = some (.int .i64 t2) ∧ w'.cell? ⟨wr.heap.size, 6, none⟩ = some (.int .i64 b2))
      (first | exact hold6 hb (by assumption) | exact ⟨hd1, hd2, hd3, hd4, hd5, hd6⟩)
      (first | (go_at_call 56; (first | (refine (chunk_Span_Len.calls t0 o2 n1 _ HLL.out.1).mono ?_) | (refine (chunk_Span_Len.calls t1 a2 n2 _ HLL.out.2.1).mono ?_) | (refine (chunk_Span_Len.calls t2 b2 n3 _ HLL.out.2.2).mono ?_)); rintro e w2 ⟨rfl, hb⟩; replace HG := Aside0.mk (below_step HG.out hb)))
     try clear hHeld
     clear hd0 hd1 hd2 hd3 hd4 hd5 hd6
     go_wp2_with fail
     go_roundg k1
     case measure => omega
     case rel => exact ⟨i1, o2, a2, b2, some st, rfl, ⟨by have := HI.out; have := HII.out; omega⟩, ⟨blk_below HA5.out HG.out⟩, ⟨below_step HW5.out HG.out⟩, ⟨by rw [HII.out]; exact HL2.out⟩, ⟨fun _ => by rw [HII.out, show i + 1 - 1 = i by omega, HST.out]⟩⟩
    ·have hgt : decide (i > 0) = false := decide_eq_false h0
     have hgt2 : decide (0 < i) = false := decide_eq_false h0
     clear h0
     have HH := Aside0.mk (below_drew (Below.refl Wc.heap.size Wc))
     refine wp_region_held_drew (S := fun w' => w'.cell? (ady.add (i.toNat * 7)) = some (.bool st) ∧ w'.cell? ⟨(ady.add (i.toNat * 7)).block, (ady.add (i.toNat * 7)).off + 1, none⟩ = some (.int .i64 t0) ∧ w'.cell? ⟨(ady.add (i.toNat * 7)).block, (ady.add (i.toNat * 7)).off + 2, none⟩ = some (.int .i64 o2) ∧ w'.cell? ⟨(ady.add (i.toNat * 7)).block, (ady.add (i.toNat * 7)).off + 3, none⟩ = some (.int .i64 t2) ∧ w'.cell? ⟨(ady.add (i.toNat * 7)).block, (ady.add (i.toNat * 7)).off + 4, none⟩ = some (.int .i64 b2) ∧ w'.cell? ⟨(ady.add (i.toNat * 7)).block, (ady.add (i.toNat * 7)).off + 5, none⟩ = some (.int .i64 t1) ∧ w'.cell? ⟨(ady.add (i.toNat * 7)).block, (ady.add (i.toNat * 7)).off + 6, none⟩ = some (.int .i64 a2) ∧ w'.cell? ⟨wr.heap.size, 0, none⟩ = some (.bool st) ∧ w'.cell? ⟨wr.heap.size, 1, none⟩ = some (.int .i64 t0) ∧ w'.cell? ⟨wr.heap.size, 2, none⟩ = some (.int .i64 o2) ∧ w'.cell? ⟨wr.heap.size, 3, none⟩ = some (.int .i64 t1) ∧ w'.cell? ⟨wr.heap.size, 4, none⟩ = some (.int .i64 a2) ∧ w'.cell? ⟨wr.heap.size, 5, none⟩ = some (.int .i64 t2) ∧ w'.cell? ⟨wr.heap.size, 6, none⟩ = some (.int .i64 b2) ∧ w'.cell? ⟨W10.heap.size, 0, none⟩ = some (.int .i64 t0) ∧ w'.cell? ⟨W10.heap.size, 1, none⟩ = some (.int .i64 t1) ∧ w'.cell? ⟨W10.heap.size, 2, none⟩ = some (.int .i64 t2)) (by kernel_rfl) ⟨hy0, hy1, hy2, hy3, hy4, hy5, hy6, hc0, hc1, hc2, hc3, hc4, hc5, hc6, ha0, ha1, ha2⟩ (fun hHeld => ?_)
     refine wpAnyH_take (i := 0) (v := ?_) (by (try simp only [List.getElem?_toArray, List.getElem?_cons_succ, List.getElem?_cons_zero]); exact rfl) (by kernel_rfl) (by kernel_rfl) (by kernel_rfl) (by exact fun _ _ _ h => h) (Or.inl ⟨by rfl, ?_⟩) hHeld ?_
     rotate_left
     ·intro w hSw
      (try dsimp only at hSw)
      go_simp
      try with_reducible rfl
     try simp only [Act.put, List.setIfInBounds_toArray, List.set_cons_zero, List.set_cons_succ]
     refine wpAnyH_take (i := 1) (v := ?_) (by (try simp only [List.getElem?_toArray, List.getElem?_cons_succ, List.getElem?_cons_zero]); exact rfl) (by kernel_rfl) (by kernel_rfl) (by kernel_rfl) (by exact fun _ _ _ h => h) (Or.inl ⟨by rfl, ?_⟩) hHeld ?_
     rotate_left
     ·intro w hSw
      (try dsimp only at hSw)
      go_simp
      try with_reducible rfl
     try simp only [Act.put, List.setIfInBounds_toArray, List.set_cons_zero, List.set_cons_succ]
     refine wpAnyH_take (i := 2) (v := ?_) (by (try simp only [List.getElem?_toArray, List.getElem?_cons_succ, List.getElem?_cons_zero]); exact rfl) (by kernel_rfl) (by kernel_rfl) (by kernel_rfl) (by exact fun _ _ _ h => h) (Or.inl ⟨by rfl, ?_⟩) hHeld ?_
     rotate_left
     ·intro w hSw
      (try dsimp only at hSw)
      go_simp
      try with_reducible rfl
     try simp only [Act.put, List.setIfInBounds_toArray, List.set_cons_zero, List.set_cons_succ]
     refine wpAnyH_take (i := 3) (v := ?_) (by (try simp only [List.getElem?_toArray, List.getElem?_cons_succ, List.getElem?_cons_zero]); exact rfl) (by kernel_rfl) (by kernel_rfl) (by kernel_rfl) (by exact fun _ _ _ h => h) (Or.inl ⟨by rfl, ?_⟩) hHeld ?_
     rotate_left
     ·intro w hSw
      (try dsimp only at hSw)
      go_simp
      try with_reducible rfl
     try simp only [Act.put, List.setIfInBounds_toArray, List.set_cons_zero, List.set_cons_succ]
     refine wpAnyH_take (i := 6) (v := ?_) (by (try simp only [List.getElem?_toArray, List.getElem?_cons_succ, List.getElem?_cons_zero]); exact rfl) (by kernel_rfl) (by kernel_rfl) (by kernel_rfl) (by exact fun _ _ _ h => h) (Or.inl ⟨by rfl, ?_⟩) hHeld ?_
     rotate_left
     ·intro w hSw
      (try dsimp only at hSw)
      go_simp
      try with_reducible rfl
     try simp only [Act.put, List.setIfInBounds_toArray, List.set_cons_zero, List.set_cons_succ]
     refine wpAnyH_ready (rs := [4]) (by kernel_rfl) (by simp) ?_
     refine AllReadyH.cons rfl (fun K hK => ?_) AllReadyH.nil
     go_simp
     go_at_call 55
     refine (chunk_Chunk_Turned.calls st t0 o2 t2 b2 t1 a2 st t0 o2 t1 a2 t2 b2 _ rfl).mono ?_
     rintro e w' ⟨rfl, hb⟩
     replace HH := Aside0.mk (below_step HH.out hb)
     refine hK.out _ _ (hold17 hb hHeld) (fun hHeld => ?_)
     clear hb hK K
     try simp only [Act.put, List.setIfInBounds_toArray, List.set_cons_zero, List.set_cons_succ]
     refine wpAnyH_ready (rs := [5]) (by kernel_rfl) (by simp) ?_
     refine AllReadyH.cons rfl (fun K hK => ?_) AllReadyH.nil
     go_simp
     go_at_call 54
     refine (tripartitelaw06_one.calls st t0 o2 t1 a2 t2 b2 st t0 o2 t1 a2 t2 b2 _ rfl).mono ?_
     rintro e w' ⟨rfl, hb⟩
     replace HH := Aside0.mk (below_step HH.out hb)
     refine hK.out _ _ (hold17 hb hHeld) (fun hHeld => ?_)
     clear hb hK K
     try simp only [Act.put, List.setIfInBounds_toArray, List.set_cons_zero, List.set_cons_succ]
     refine wpAnyH_ready (rs := [7]) (by kernel_rfl) (by simp) ?_
     refine AllReadyH.cons rfl (fun K hK => ?_) AllReadyH.nil
     go_simp
     go_at_call 54
     refine (tripartitelaw06_one.calls st t0 o2 t1 a2 t2 b2 st t0 o2 t1 a2 t2 b2 _ rfl).mono ?_
     rintro e w' ⟨rfl, hb⟩
     replace HH := Aside0.mk (below_step HH.out hb)
     refine hK.out _ _ (hold17 hb hHeld) (fun hHeld => ?_)
     clear hb hK K
     try simp only [Act.put, List.setIfInBounds_toArray, List.set_cons_zero, List.set_cons_succ]
     refine wpAnyH_take (i := 8) (v := ?_) (by (try simp only [List.getElem?_toArray, List.getElem?_cons_succ, List.getElem?_cons_zero]); exact rfl) (by kernel_rfl) (by kernel_rfl) (by kernel_rfl) (by exact fun _ _ _ h => h) (Or.inl ⟨by rfl, ?_⟩) hHeld ?_
     rotate_left
     ·intro w hSw
      (try dsimp only at hSw)
      go_simp
      try with_reducible rfl
     try simp only [Act.put, List.setIfInBounds_toArray, List.set_cons_zero, List.set_cons_succ]
     refine wpAnyH_take (i := 9) (v := ?_) (by (try simp only [List.getElem?_toArray, List.getElem?_cons_succ, List.getElem?_cons_zero]); exact rfl) (by kernel_rfl) (by kernel_rfl) (by kernel_rfl) (by exact fun _ _ _ h => h) (Or.inl ⟨by rfl, ?_⟩) hHeld ?_
     rotate_left
     ·intro w hSw
      (try dsimp only at hSw)
      go_simp
      try with_reducible rfl
     try simp only [Act.put, List.setIfInBounds_toArray, List.set_cons_zero, List.set_cons_succ]
     refine wpAnyH_take (i := 10) (v := ?_) (by (try simp only [List.getElem?_toArray, List.getElem?_cons_succ, List.getElem?_cons_zero]); exact rfl) (by kernel_rfl) (by kernel_rfl) (by kernel_rfl) (by exact fun _ _ _ h => h) (Or.inl ⟨by rfl, ?_⟩) hHeld ?_
     rotate_left
     ·intro w hSw
      (try dsimp only at hSw)
      go_simp
      try with_reducible rfl
     try simp only [Act.put, List.setIfInBounds_toArray, List.set_cons_zero, List.set_cons_succ]
     refine wpAnyH_take (i := 11) (v := ?_) (by (try simp only [List.getElem?_toArray, List.getElem?_cons_succ, List.getElem?_cons_zero]); exact rfl) (by kernel_rfl) (by kernel_rfl) (by kernel_rfl) (by exact fun _ _ _ h => h) (Or.inl ⟨by rfl, ?_⟩) hHeld ?_
     rotate_left
     ·intro w hSw
      (try dsimp only at hSw)
      go_simp
      try with_reducible rfl
     try simp only [Act.put, List.setIfInBounds_toArray, List.set_cons_zero, List.set_cons_succ]
     refine wpAnyH_take (i := 12) (v := ?_) (by (try simp only [List.getElem?_toArray, List.getElem?_cons_succ, List.getElem?_cons_zero]); exact rfl) (by kernel_rfl) (by kernel_rfl) (by kernel_rfl) (by exact fun _ _ _ h => h) (Or.inl ⟨by rfl, ?_⟩) hHeld ?_
     rotate_left
     ·intro w hSw
      (try dsimp only at hSw)
      go_simp
      try with_reducible rfl
     try simp only [Act.put, List.setIfInBounds_toArray, List.set_cons_zero, List.set_cons_succ]
     refine wpAnyH_take (i := 13) (v := ?_) (by (try simp only [List.getElem?_toArray, List.getElem?_cons_succ, List.getElem?_cons_zero]); exact rfl) (by kernel_rfl) (by kernel_rfl) (by kernel_rfl) (by exact fun _ _ _ h => h) (Or.inl ⟨by rfl, ?_⟩) hHeld ?_
     rotate_left
     ·intro w hSw
      (try dsimp only at hSw)
      go_simp
      try with_reducible rfl
     try simp only [Act.put, List.setIfInBounds_toArray, List.set_cons_zero, List.set_cons_succ]
     refine wpAnyH_take (i := 14) (v := ?_) (by (try simp only [List.getElem?_toArray, List.getElem?_cons_succ, List.getElem?_cons_zero]); exact rfl) (by kernel_rfl) (by kernel_rfl) (by kernel_rfl) (by exact fun _ _ _ h => h) (Or.inl ⟨by rfl, ?_⟩) hHeld ?_
     rotate_left
     ·intro w hSw
      (try dsimp only at hSw)
      go_simp
      try with_reducible rfl
     try simp only [Act.put, List.setIfInBounds_toArray, List.set_cons_zero, List.set_cons_succ]
     refine wpAnyH_take (i := 15) (v := ?_) (by (try simp only [List.getElem?_toArray, List.getElem?_cons_succ, List.getElem?_cons_zero]); exact rfl) (by kernel_rfl) (by kernel_rfl) (by kernel_rfl) (by exact fun _ _ _ h => h) (Or.inl ⟨by rfl, ?_⟩) hHeld ?_
     rotate_left
     ·intro w hSw
      (try dsimp only at hSw)
      go_simp
      try with_reducible rfl
     try simp only [Act.put, List.setIfInBounds_toArray, List.set_cons_zero, List.set_cons_succ]
     refine wpAnyH_take (i := 16) (v := ?_) (by (try simp only [List.getElem?_toArray, List.getElem?_cons_succ, List.getElem?_cons_zero]); exact rfl) (by kernel_rfl) (by kernel_rfl) (by kernel_rfl) (by exact fun _ _ _ h => h) (Or.inl ⟨by rfl, ?_⟩) hHeld ?_
     rotate_left
     ·intro w hSw
      (try dsimp only at hSw)
      go_simp
      try with_reducible rfl
     try simp only [Act.put, List.setIfInBounds_toArray, List.set_cons_zero, List.set_cons_succ]
     refine wpAnyH_take (i := 17) (v := ?_) (by (try simp only [List.getElem?_toArray, List.getElem?_cons_succ, List.getElem?_cons_zero]); exact rfl) (by kernel_rfl) (by kernel_rfl) (by kernel_rfl) (by exact fun _ _ _ h => h) (Or.inl ⟨by rfl, ?_⟩) hHeld ?_
     rotate_left
     ·intro w hSw
      (try dsimp only at hSw)
      go_simp
      try with_reducible rfl
     try simp only [Act.put, List.setIfInBounds_toArray, List.set_cons_zero, List.set_cons_succ]
     refine wpAnyH_take (i := 18) (v := ?_) (by (try simp only [List.getElem?_toArray, List.getElem?_cons_succ, List.getElem?_cons_zero]); exact rfl) (by kernel_rfl) (by kernel_rfl) (by kernel_rfl) (by exact fun _ _ _ h => h) (Or.inl ⟨by rfl, ?_⟩) hHeld ?_
     rotate_left
     ·intro w hSw
      (try dsimp only at hSw)
      go_simp
      try with_reducible rfl
     try simp only [Act.put, List.setIfInBounds_toArray, List.set_cons_zero, List.set_cons_succ]
     refine wpAnyH_take (i := 19) (v := ?_) (by (try simp only [List.getElem?_toArray, List.getElem?_cons_succ, List.getElem?_cons_zero]); exact rfl) (by kernel_rfl) (by kernel_rfl) (by kernel_rfl) (by exact fun _ _ _ h => h) (Or.inl ⟨by rfl, ?_⟩) hHeld ?_
     rotate_left
     ·intro w hSw
      (try dsimp only at hSw)
      go_simp
      try with_reducible rfl
     try simp only [Act.put, List.setIfInBounds_toArray, List.set_cons_zero, List.set_cons_succ]
     refine wpAnyH_take (i := 20) (v := ?_) (by (try simp only [List.getElem?_toArray, List.getElem?_cons_succ, List.getElem?_cons_zero]); exact rfl) (by kernel_rfl) (by kernel_rfl) (by kernel_rfl) (by exact fun _ _ _ h => h) (Or.inl ⟨by rfl, ?_⟩) hHeld ?_
     rotate_left
     ·intro w hSw
      (try dsimp only at hSw)
      go_simp
      try with_reducible rfl
     try simp only [Act.put, List.setIfInBounds_toArray, List.set_cons_zero, List.set_cons_succ]
     refine wpAnyH_take (i := 21) (v := ?_) (by (try simp only [List.getElem?_toArray, List.getElem?_cons_succ, List.getElem?_cons_zero]); exact rfl) (by kernel_rfl) (by kernel_rfl) (by kernel_rfl) (by exact fun _ _ _ h => h) (Or.inl ⟨by rfl, ?_⟩) hHeld ?_
     rotate_left
     ·intro w hSw
      (try dsimp only at hSw)
      go_simp
      try with_reducible rfl
     try simp only [Act.put, List.setIfInBounds_toArray, List.set_cons_zero, List.set_cons_succ]
     refine wpAnyH_take (i := 22) (v := ?_) (by (try simp only [List.getElem?_toArray, List.getElem?_cons_succ, List.getElem?_cons_zero]); exact rfl) (by kernel_rfl) (by kernel_rfl) (by kernel_rfl) (by exact fun _ _ _ h => h) (Or.inl ⟨by rfl, ?_⟩) hHeld ?_
     rotate_left
     ·intro w hSw
      (try dsimp only at hSw)
      go_simp
      try with_reducible rfl
     try simp only [Act.put, List.setIfInBounds_toArray, List.set_cons_zero, List.set_cons_succ]
     refine wpAnyH_take (i := 23) (v := ?_) (by (try simp only [List.getElem?_toArray, List.getElem?_cons_succ, List.getElem?_cons_zero]); exact rfl) (by kernel_rfl) (by kernel_rfl) (by kernel_rfl) (by exact fun _ _ _ h => h) (Or.inl ⟨by rfl, ?_⟩) hHeld ?_
     rotate_left
     ·intro w hSw
      (try dsimp only at hSw)
      go_simp
      try with_reducible rfl
     try simp only [Act.put, List.setIfInBounds_toArray, List.set_cons_zero, List.set_cons_succ]
     refine wpAnyH_take (i := 24) (v := ?_) (by (try simp only [List.getElem?_toArray, List.getElem?_cons_succ, List.getElem?_cons_zero]); exact rfl) (by kernel_rfl) (by kernel_rfl) (by kernel_rfl) (by exact fun _ _ _ h => h) (Or.inl ⟨by rfl, ?_⟩) hHeld ?_
     rotate_left
     ·intro w hSw
      (try dsimp only at hSw)
      go_simp
      try with_reducible rfl
     try simp only [Act.put, List.setIfInBounds_toArray, List.set_cons_zero, List.set_cons_succ]
     refine wpAnyH_take (i := 25) (v := ?_) (by (try simp only [List.getElem?_toArray, List.getElem?_cons_succ, List.getElem?_cons_zero]); exact rfl) (by kernel_rfl) (by kernel_rfl) (by kernel_rfl) (by exact fun _ _ _ h => h) (Or.inl ⟨by rfl, ?_⟩) hHeld ?_
     rotate_left
     ·intro w hSw
      (try dsimp only at hSw)
      go_simp
      try with_reducible rfl
     try simp only [Act.put, List.setIfInBounds_toArray, List.set_cons_zero, List.set_cons_succ]
     refine wpAnyH_take (i := 26) (v := ?_) (by (try simp only [List.getElem?_toArray, List.getElem?_cons_succ, List.getElem?_cons_zero]); exact rfl) (by kernel_rfl) (by kernel_rfl) (by kernel_rfl) (by exact fun _ _ _ h => h) (Or.inl ⟨by rfl, ?_⟩) hHeld ?_
     rotate_left
     ·intro w hSw
      (try dsimp only at hSw)
      go_simp
      try with_reducible rfl
     try simp only [Act.put, List.setIfInBounds_toArray, List.set_cons_zero, List.set_cons_succ]
     refine wpAnyH_take (i := 27) (v := ?_) (by (try simp only [List.getElem?_toArray, List.getElem?_cons_succ, List.getElem?_cons_zero]); exact rfl) (by kernel_rfl) (by kernel_rfl) (by kernel_rfl) (by exact fun _ _ _ h => h) (Or.inl ⟨by rfl, ?_⟩) hHeld ?_
     rotate_left
     ·intro w hSw
      (try dsimp only at hSw)
      go_simp
      try with_reducible rfl
     try simp only [Act.put, List.setIfInBounds_toArray, List.set_cons_zero, List.set_cons_succ]
     refine wpAnyH_take (i := 28) (v := ?_) (by (try simp only [List.getElem?_toArray, List.getElem?_cons_succ, List.getElem?_cons_zero]); exact rfl) (by kernel_rfl) (by kernel_rfl) (by kernel_rfl) (by exact fun _ _ _ h => h) (Or.inl ⟨by rfl, ?_⟩) hHeld ?_
     rotate_left
     ·intro w hSw
      (try dsimp only at hSw)
      go_simp
      try with_reducible rfl
     try simp only [Act.put, List.setIfInBounds_toArray, List.set_cons_zero, List.set_cons_succ]
     refine wpAnyH_take (i := 29) (v := ?_) (by (try simp only [List.getElem?_toArray, List.getElem?_cons_succ, List.getElem?_cons_zero]); exact rfl) (by kernel_rfl) (by kernel_rfl) (by kernel_rfl) (by exact fun _ _ _ h => h) (Or.inl ⟨by rfl, ?_⟩) hHeld ?_
     rotate_left
     ·intro w hSw
      (try dsimp only at hSw)
      go_simp
      try with_reducible rfl
     try simp only [Act.put, List.setIfInBounds_toArray, List.set_cons_zero, List.set_cons_succ]
     refine wpAnyH_take (i := 30) (v := ?_) (by (try simp only [List.getElem?_toArray, List.getElem?_cons_succ, List.getElem?_cons_zero]); exact rfl) (by kernel_rfl) (by kernel_rfl) (by kernel_rfl) (by exact fun _ _ _ h => h) (Or.inl ⟨by rfl, ?_⟩) hHeld ?_
     rotate_left
     ·intro w hSw
      (try dsimp only at hSw)
      go_simp
      try with_reducible rfl
     try simp only [Act.put, List.setIfInBounds_toArray, List.set_cons_zero, List.set_cons_succ]
     refine wpAnyH_take (i := 31) (v := ?_) (by (try simp only [List.getElem?_toArray, List.getElem?_cons_succ, List.getElem?_cons_zero]); exact rfl) (by kernel_rfl) (by kernel_rfl) (by kernel_rfl) (by exact fun _ _ _ h => h) (Or.inl ⟨by rfl, ?_⟩) hHeld ?_
     rotate_left
     ·intro w hSw
      (try dsimp only at hSw)
      go_simp
      try with_reducible rfl
     try simp only [Act.put, List.setIfInBounds_toArray, List.set_cons_zero, List.set_cons_succ]
     refine wpAnyH_take (i := 32) (v := ?_) (by (try simp only [List.getElem?_toArray, List.getElem?_cons_succ, List.getElem?_cons_zero]); exact rfl) (by kernel_rfl) (by kernel_rfl) (by kernel_rfl) (by exact fun _ _ _ h => h) (Or.inl ⟨by rfl, ?_⟩) hHeld ?_
     rotate_left
     ·intro w hSw
      (try dsimp only at hSw)
      go_simp
      try with_reducible rfl
     try simp only [Act.put, List.setIfInBounds_toArray, List.set_cons_zero, List.set_cons_succ]
     refine wpAnyH_take (i := 33) (v := ?_) (by (try simp only [List.getElem?_toArray, List.getElem?_cons_succ, List.getElem?_cons_zero]); exact rfl) (by kernel_rfl) (by kernel_rfl) (by kernel_rfl) (by exact fun _ _ _ h => h) (Or.inl ⟨by rfl, ?_⟩) hHeld ?_
     rotate_left
     ·intro w hSw
      (try dsimp only at hSw)
      go_simp
      try with_reducible rfl
     try simp only [Act.put, List.setIfInBounds_toArray, List.set_cons_zero, List.set_cons_succ]
     refine wpAnyH_take (i := 34) (v := ?_) (by (try simp only [List.getElem?_toArray, List.getElem?_cons_succ, List.getElem?_cons_zero]); exact rfl) (by kernel_rfl) (by kernel_rfl) (by kernel_rfl) (by exact fun _ _ _ h => h) (Or.inl ⟨by rfl, ?_⟩) hHeld ?_
     rotate_left
     ·intro w hSw
      (try dsimp only at hSw)
      go_simp
      try with_reducible rfl
     try simp only [Act.put, List.setIfInBounds_toArray, List.set_cons_zero, List.set_cons_succ]
     refine wpAnyH_take (i := 35) (v := ?_) (by (try simp only [List.getElem?_toArray, List.getElem?_cons_succ, List.getElem?_cons_zero]); exact rfl) (by kernel_rfl) (by kernel_rfl) (by kernel_rfl) (by exact fun _ _ _ h => h) (Or.inl ⟨by rfl, ?_⟩) hHeld ?_
     rotate_left
     ·intro w hSw
      (try dsimp only at hSw)
      go_simp
      try with_reducible rfl
     try simp only [Act.put, List.setIfInBounds_toArray, List.set_cons_zero, List.set_cons_succ]
     refine wpAnyH_take (i := 36) (v := ?_) (by (try simp only [List.getElem?_toArray, List.getElem?_cons_succ, List.getElem?_cons_zero]); exact rfl) (by kernel_rfl) (by kernel_rfl) (by kernel_rfl) (by exact fun _ _ _ h => h) (Or.inl ⟨by rfl, ?_⟩) hHeld ?_
     rotate_left
     ·intro w hSw
      (try dsimp only at hSw)
      go_simp
      try with_reducible rfl
     try simp only [Act.put, List.setIfInBounds_toArray, List.set_cons_zero, List.set_cons_succ]
     refine wpAnyH_take (i := 37) (v := undef) (by (try simp only [List.getElem?_toArray, List.getElem?_cons_succ, List.getElem?_cons_zero]); exact rfl) (by kernel_rfl) (by kernel_rfl) (by kernel_rfl) (by exact fun _ _ _ h => h) (Or.inr ⟨by rfl, rfl⟩) hHeld ?_
     try simp only [Act.put, List.setIfInBounds_toArray, List.set_cons_zero, List.set_cons_succ]
     refine wpAnyH_take (i := 38) (v := undef) (by (try simp only [List.getElem?_toArray, List.getElem?_cons_succ, List.getElem?_cons_zero]); exact rfl) (by kernel_rfl) (by kernel_rfl) (by kernel_rfl) (by exact fun _ _ _ h => h) (Or.inr ⟨by rfl, rfl⟩) hHeld ?_
     try simp only [Act.put, List.setIfInBounds_toArray, List.set_cons_zero, List.set_cons_succ]
     refine wpAnyH_take (i := 39) (v := undef) (by (try simp only [List.getElem?_toArray, List.getElem?_cons_succ, List.getElem?_cons_zero]); exact rfl) (by kernel_rfl) (by kernel_rfl) (by kernel_rfl) (by exact fun _ _ _ h => h) (Or.inr ⟨by rfl, rfl⟩) hHeld ?_
     try simp only [Act.put, List.setIfInBounds_toArray, List.set_cons_zero, List.set_cons_succ]
     refine wpAnyH_take (i := 40) (v := undef) (by (try simp only [List.getElem?_toArray, List.getElem?_cons_succ, List.getElem?_cons_zero]); exact rfl) (by kernel_rfl) (by kernel_rfl) (by kernel_rfl) (by exact fun _ _ _ h => h) (Or.inr ⟨by rfl, rfl⟩) hHeld ?_
     try simp only [Act.put, List.setIfInBounds_toArray, List.set_cons_zero, List.set_cons_succ]
     refine wpAnyH_take (i := 41) (v := undef) (by (try simp only [List.getElem?_toArray, List.getElem?_cons_succ, List.getElem?_cons_zero]); exact rfl) (by kernel_rfl) (by kernel_rfl) (by kernel_rfl) (by exact fun _ _ _ h => h) (Or.inr ⟨by rfl, rfl⟩) hHeld ?_
     try simp only [Act.put, List.setIfInBounds_toArray, List.set_cons_zero, List.set_cons_succ]
     refine wpAnyH_take (i := 42) (v := undef) (by (try simp only [List.getElem?_toArray, List.getElem?_cons_succ, List.getElem?_cons_zero]); exact rfl) (by kernel_rfl) (by kernel_rfl) (by kernel_rfl) (by exact fun _ _ _ h => h) (Or.inr ⟨by rfl, rfl⟩) hHeld ?_
     try simp only [Act.put, List.setIfInBounds_toArray, List.set_cons_zero, List.set_cons_succ]
     refine wpAnyH_take (i := 43) (v := undef) (by (try simp only [List.getElem?_toArray, List.getElem?_cons_succ, List.getElem?_cons_zero]); exact rfl) (by kernel_rfl) (by kernel_rfl) (by kernel_rfl) (by exact fun _ _ _ h => h) (Or.inr ⟨by rfl, rfl⟩) hHeld ?_
     try simp only [Act.put, List.setIfInBounds_toArray, List.set_cons_zero, List.set_cons_succ]
     refine wpAnyH_take (i := 44) (v := undef) (by (try simp only [List.getElem?_toArray, List.getElem?_cons_succ, List.getElem?_cons_zero]); exact rfl) (by kernel_rfl) (by kernel_rfl) (by kernel_rfl) (by exact fun _ _ _ h => h) (Or.inr ⟨by rfl, rfl⟩) hHeld ?_
     try simp only [Act.put, List.setIfInBounds_toArray, List.set_cons_zero, List.set_cons_succ]
     refine wpAnyH_take (i := 45) (v := undef) (by (try simp only [List.getElem?_toArray, List.getElem?_cons_succ, List.getElem?_cons_zero]); exact rfl) (by kernel_rfl) (by kernel_rfl) (by kernel_rfl) (by exact fun _ _ _ h => h) (Or.inr ⟨by rfl, rfl⟩) hHeld ?_
     try simp only [Act.put, List.setIfInBounds_toArray, List.set_cons_zero, List.set_cons_succ]
     refine wpAnyH_take (i := 46) (v := ?_) (by (try simp only [List.getElem?_toArray, List.getElem?_cons_succ, List.getElem?_cons_zero]); exact rfl) (by kernel_rfl) (by kernel_rfl) (by kernel_rfl) (by exact fun _ _ _ h => h) (Or.inl ⟨by rfl, ?_⟩) hHeld ?_
     rotate_left
     ·intro w hSw
      (try dsimp only at hSw)
      go_simp
      try with_reducible rfl
     try simp only [Act.put, List.setIfInBounds_toArray, List.set_cons_zero, List.set_cons_succ]
     refine wpAnyH_take (i := 47) (v := ?_) (by (try simp only [List.getElem?_toArray, List.getElem?_cons_succ, List.getElem?_cons_zero]); exact rfl) (by kernel_rfl) (by kernel_rfl) (by kernel_rfl) (by exact fun _ _ _ h => h) (Or.inl ⟨by rfl, ?_⟩) hHeld ?_
     rotate_left
     ·intro w hSw
      (try dsimp only at hSw)
      go_simp
      try with_reducible rfl
     try simp only [Act.put, List.setIfInBounds_toArray, List.set_cons_zero, List.set_cons_succ]
     refine wpAnyH_done (by kernel_rfl) ?_ _
     try clear hHeld
     clear hy0 hy1 hy2 hy3 hy4 hy5 hy6 hc0 hc1 hc2 hc3 hc4 hc5 hc6 ha0 ha1 ha2 hgt hgt2
     have HBK3 := Aside0.mk (blk_below HBK.out HH.out)
     have HA3 := Aside0.mk (blk_below HA2.out HH.out)
     have HW3 := Aside0.mk (below_step (below_step HW.out HBC.out) HH.out)
     have hne : W10.heap.size ≠ wr.heap.size := Nat.ne_of_lt (blk_lt HA.out)
     have hd0 : w'.cell? ⟨wr.heap.size, 0, none⟩ = some (.bool st) := (blk_cell HBK3.out 0).trans rfl
     have hd1 : w'.cell? ⟨wr.heap.size, 1, none⟩ = some (.int .i64 t0) := (blk_cell HBK3.out 1).trans rfl
     have hd2 : w'.cell? ⟨wr.heap.size, 2, none⟩ = some (.int .i64 o2) := (blk_cell HBK3.out 2).trans rfl
     have hd3 : w'.cell? ⟨wr.heap.size, 3, none⟩ = some (.int .i64 t1) := (blk_cell HBK3.out 3).trans rfl
     have hd4 : w'.cell? ⟨wr.heap.size, 4, none⟩ = some (.int .i64 a2) := (blk_cell HBK3.out 4).trans rfl
     have hd5 : w'.cell? ⟨wr.heap.size, 5, none⟩ = some (.int .i64 t2) := (blk_cell HBK3.out 5).trans rfl
     have hd6 : w'.cell? ⟨wr.heap.size, 6, none⟩ = some (.int .i64 b2) := (blk_cell HBK3.out 6).trans rfl
     have hq0 : w'.cell? ⟨W10.heap.size, 0, none⟩ = some (.int .i64 t0) := (blk_cell HA3.out 0).trans rfl
     have hf0 := blk_frozen HA3.out 0
     have hq1 : w'.cell? ⟨W10.heap.size, 1, none⟩ = some (.int .i64 t1) := (blk_cell HA3.out 1).trans rfl
     have hf1 := blk_frozen HA3.out 1
     have hq2 : w'.cell? ⟨W10.heap.size, 2, none⟩ = some (.int .i64 t2) := (blk_cell HA3.out 2).trans rfl
     have hf2 := blk_frozen HA3.out 2
     go_wp2_with fail
     have HA5 := Aside0.mk (blk_put (blk_put (blk_put HA3.out 0 (.int .i64 o2) rfl) 1 (.int .i64 a2) rfl) 2 (.int .i64 b2) rfl)
     have HBK5 := Aside0.mk (blk_far (p := ⟨W10.heap.size, 2, none⟩) (blk_far (p := ⟨W10.heap.size, 1, none⟩) (blk_far (p := ⟨W10.heap.size, 0, none⟩) HBK3.out (Ne.symm hne) (.int .i64 o2)) (Ne.symm hne) (.int .i64 a2)) (Ne.symm hne) (.int .i64 b2))
     have HW5 := Aside0.mk (below_set (j := 2) (v := .int .i64 b2) (below_set (j := 1) (v := .int .i64 a2) (below_set (j := 0) (v := .int .i64 o2) HW3.out (Nat.le_refl _)) (Nat.le_refl _)) (Nat.le_refl _))
     clear hd0 hd1 hd2 hd3 hd4 hd5 hd6 hq0 hq1 hq2 hf0 hf1 hf2 hne
     generalize (((w'.setCell ⟨W10.heap.size, 0, none⟩ (.int .i64 o2)).setCell ⟨W10.heap.size, 1, none⟩ (.int .i64 a2)).setCell ⟨W10.heap.size, 2, none⟩ (.int .i64 b2)) = W5 at HA5 HBK5 HW5 ⊢
     have hd0 : W5.cell? ⟨wr.heap.size, 0, none⟩ = some (.bool st) := (blk_cell HBK5.out 0).trans rfl
     have hd1 : W5.cell? ⟨wr.heap.size, 1, none⟩ = some (.int .i64 t0) := (blk_cell HBK5.out 1).trans rfl
     have hd2 : W5.cell? ⟨wr.heap.size, 2, none⟩ = some (.int .i64 o2) := (blk_cell HBK5.out 2).trans rfl
     have hd3 : W5.cell? ⟨wr.heap.size, 3, none⟩ = some (.int .i64 t1) := (blk_cell HBK5.out 3).trans rfl
     have hd4 : W5.cell? ⟨wr.heap.size, 4, none⟩ = some (.int .i64 a2) := (blk_cell HBK5.out 4).trans rfl
     have hd5 : W5.cell? ⟨wr.heap.size, 5, none⟩ = some (.int .i64 t2) := (blk_cell HBK5.out 5).trans rfl
     have hd6 : W5.cell? ⟨wr.heap.size, 6, none⟩ = some (.int .i64 b2) := (blk_cell HBK5.out 6).trans rfl
     obtain ⟨q0, q1, q2, q3, q4, q5, q6, q7, q8, q9⟩ := HRG.out
     obtain ⟨p0, p1, p2, p3, p4, p5⟩ := BB.out
     obtain ⟨n1, hn1⟩ : ∃ n, n = o2 - t0 := ⟨_, rfl⟩
     obtain ⟨n2, hn2⟩ : ∃ n, n = a2 - t1 := ⟨_, rfl⟩
     obtain ⟨n3, hn3⟩ : ∃ n, n = b2 - t2 := ⟨_, rfl⟩
     obtain ⟨n12, hn12⟩ : ∃ n, n = n1 + n2 := ⟨_, rfl⟩
     obtain ⟨n13, hn13⟩ : ∃ n, n = n12 + n3 := ⟨_, rfl⟩
     have L1 : chunk_Span_Len.f t0 o2 = some n1 := by rw [hn1]; exact len_ok q0 q1 (by omega)
     have L2 : chunk_Span_Len.f t1 a2 = some n2 := by rw [hn2]; exact len_ok q3 q4 (by omega)
     have L3 : chunk_Span_Len.f t2 b2 = some n3 := by rw [hn3]; exact len_ok q6 q7 (by omega)
     have hw1 : IntKind.i64.wrap (n1 + n2) = n12 := by rw [i64_w, Jdg.w64 (by omega) (by omega), hn12]
     have hw2 : IntKind.i64.wrap (n12 + n3) = n13 := by rw [i64_w, Jdg.w64 (by omega) (by omega), hn13]
     have hnz : (n13 == 0) = false := beq_eq_false_iff_ne.mpr (by omega)
     have hnz2 : decide (n13 = 0) = false := decide_eq_false (by omega)
     obtain ⟨i1, hii⟩ : ∃ j, j = i + 1 := ⟨_, rfl⟩
     have hwi : IntKind.i64.wrap (i + 1) = i1 := by rw [i64_w, Jdg.w64 (by have := HI.out.2; have := FN.out; omega) (by have := HI.out.2; have := FN.out; omega), hii]
     have HLL := Aside0.mk (And.intro L1 (And.intro L2 L3))
     have HII := Aside0.mk hii
     clear q0 q1 q2 q3 q4 q5 q6 q7 q8 q9 p0 p1 p2 p3 p4 p5 hn1 hn2 hn3 hn12 hn13 L1 L2 L3 hii
     have HG := Aside0.mk (below_drew (Below.refl W5.heap.size W5))
     go_region_held3 (fun w' => w'.cell? ⟨wr.heap.size, 1, none⟩ = some (.int .i64 t0) ∧ w'.cell? ⟨wr.heap.size, 2, none⟩ = some (.int .i64 o2) ∧ w'.cell? ⟨wr.heap.size, 3, none⟩ = some (.int .i64 t1) ∧ w'.cell? ⟨wr.heap.size, 4, none⟩ = some (.int .i64 a2) ∧ w'.cell? ⟨wr.heap.size, 5, none⟩ = some (.int .i64 t2) ∧ w'.cell? ⟨wr.heap.size, 6, none⟩ = some (.int .i64 b2))
      (first | exact hold6 hb (by assumption) | exact ⟨hd1, hd2, hd3, hd4, hd5, hd6⟩)
      (first | (go_at_call 56; (first | (refine (chunk_Span_Len.calls t0 o2 n1 _ HLL.out.1).mono ?_) | (refine (chunk_Span_Len.calls t1 a2 n2 _ HLL.out.2.1).mono ?_) | (refine (chunk_Span_Len.calls t2 b2 n3 _ HLL.out.2.2).mono ?_)); rintro e w2 ⟨rfl, hb⟩; replace HG := Aside0.mk (below_step HG.out hb)))
     try clear hHeld
     clear hd0 hd1 hd2 hd3 hd4 hd5 hd6
     go_wp2_with fail
     go_roundg k1
     case measure => omega
     case rel => exact ⟨i1, o2, a2, b2, some st, rfl, ⟨by have := HI.out; have := HII.out; omega⟩, ⟨blk_below HA5.out HG.out⟩, ⟨below_step HW5.out HG.out⟩, ⟨by rw [HII.out]; exact HL2.out⟩, ⟨fun _ => by rw [HII.out, show i + 1 - 1 = i by omega, HST.out]⟩⟩
 ·have HNIL := Aside0.mk hnil
  clear hnil
  go_wp2_with fail
  refine (tripartitelaw06_From.calls k6 Ax cx x cs _ Hx.out Lx.out F6.out).mono ?_
  rintro e W9 ⟨v0_, rfl, hR, hB⟩
  replace Hx := Aside0.mk (Kd.C_below Hx.out hB)
  replace Hw := Aside0.mk (Kd.C_below Hw.out hB)
  replace Hy := Aside0.mk (Kd.C_below Hy.out hB)
  replace HB := Aside0.mk (below_step HB.out hB)
  obtain ⟨Af, cf, rfl, hcX, hCX⟩ := Kd.R_reads hR
  have Hf := Aside0.mk hCX
  have Lf := Aside0.mk hcX
  clear hR hB hCX hcX
  go_wp2_with fail
  refine (tripartitelaw06_Same.calls k7 Af cf cs Aw cw cs true _ Hf.out Lf.out Hw.out Lw.out F7.out).mono ?_
  rintro e W10 ⟨rfl, hD⟩
  have hB := Drawn0.below hD
  replace Hx := Aside0.mk (Kd.C_below Hx.out hB)
  replace Hw := Aside0.mk (Kd.C_below Hw.out hB)
  replace Hy := Aside0.mk (Kd.C_below Hy.out hB)
  replace Hf := Aside0.mk (Kd.C_below Hf.out hB)
  replace HB := Aside0.mk (below_step HB.out hB)
  clear hB hD
  go_wp2_with fail
  have hx0 : x.length = 0 := by rw [EX.out, HNIL.out]; rfl
  have hd0 : decide ((0 : Int) < (x.length : Int)) = false := decide_eq_false (by omega)
  have hd1 : decide (0 < x.length) = false := decide_eq_false (by omega)
  clear hx0
  go_loopg [17] 0 (fun kq v17 wr => v17 = .int .i64 0 ∧ Aside0 (Below W10.heap.size W10 wr))
  case atStart => exact ⟨rfl, ⟨below_alloc (Below.refl _ _) _⟩⟩
  case round =>
   obtain ⟨rfl, HW⟩ := hrel
   go_wp2_with fail
   go_ret
   exact ⟨rfl, below_step HB.out HW.out⟩
end Go.Proofs.Ytadafplbgophfaa.PA
end
section
/- An argument that is a slice, opened as a row that the printed functions read: of whole numbers, of strings, of bools, of pairs. -/
namespace Go.Proofs.Ytadafplbgophfaa.PA
open Go.ChangeShapes Go.WideShapes Go.Deep
open Go.RowKit Go.Proofs.YtadafplbgophfaaW.PrintWords Go.Proofs.YtadafplbgophfaaW.PrintLast Go.Proofs.YtadafplbgophfaaW.PrintMore
section
variable {H : Type} {enc : TypeId × Value → H} {P : Program} {w : World} {base : Nat} {held : Bool} {t e : TypeId} {a : Option Addr} {len cap : Nat} {d : DataW H} {ps : List MemPlace}

theorem nil_C {α : Type} (k : Kd α) (w : World) : Kd.C k w none ([] : List α).length [] := ⟨rfl, by simp, fun h => by simp at h⟩
theorem range_C {α : Type} {k : Kd α} {x : Addr} (n : Nat) (hn : n ≤ maxLen) (f : Nat → α) (h : ∀ i, i < n → ∃ c, c.length = k.sz ∧ k.K w (f i) c ∧ ∀ j u, c[j]? = some u → w.cell? (x.add (i * k.sz + j)) = some u) :
    Kd.C k w (some x) ((List.range n).map f).length ((List.range n).map f) := by
  refine ⟨rfl, by rw [List.length_map, List.length_range]; exact hn, fun _ => ⟨x, rfl, fun j p hj => ?_⟩⟩
  rw [List.getElem?_map] at hj
  obtain ⟨i, hi, rfl⟩ := Option.map_eq_some_iff.1 hj
  obtain ⟨hl, he⟩ := List.getElem?_eq_some_iff.1 hi
  rw [List.getElem_range] at he
  subst he
  rw [List.length_range] at hl
  exact h _ hl
theorem row_strs (ht : P.underlying t = some (.slice e)) (he : P.underlying e = some .string) (hc : P.cellsOf e = 1) (h : DataW.Trod enc P w base (fun _ => true) held t (.slice a len cap) d ps) :
    ∃ l : List ByteArray, len = l.length ∧ Kd.C Kd.string w a l.length l ∧ l.length ≤ maxLen ∧ l.length ≤ cap ∧ ∀ s ∈ l, s.size ≤ maxLen := by
  obtain ⟨fuel, hf⟩ := h
  rcases open_strs ht he hc hf with ⟨hcs, _⟩ | ⟨x, n, c, m, Sx, hcs, _, hl, hm, hmm, _, hx⟩
  · simp [Value.cells] at hcs
    obtain ⟨rfl, rfl, rfl⟩ := hcs
    exact ⟨[], rfl, nil_C _ _, by simp, by simp, by simp⟩
  · simp [Value.cells] at hcs
    obtain ⟨rfl, rfl, rfl⟩ := hcs
    simp only [if_true] at hmm
    subst hmm
    refine ⟨(List.range len).map Sx, by simp, range_C _ (Nat.le_trans hl hm) Sx (fun i hi => ⟨[.string (Sx i)], rfl, rfl, fun j u hu => ?_⟩), by simpa using Nat.le_trans hl hm, by simpa using hl, ?_⟩
    · obtain ⟨hj, rfl⟩ := List.getElem?_eq_some_iff.1 hu
      obtain rfl : j = 0 := by simpa using hj
      have := (hx i (Nat.lt_of_lt_of_le hi hl)).1
      simpa [Kd.string, Kd.scalar] using this
    · intro s hs
      obtain ⟨i, hi, rfl⟩ := List.mem_map.1 hs
      exact (hx i (Nat.lt_of_lt_of_le (List.mem_range.1 hi) hl)).2
theorem row_bools (ht : P.underlying t = some (.slice e)) (he : P.underlying e = some .bool) (hc : P.cellsOf e = 1) (h : DataW.Trod enc P w base (fun _ => true) held t (.slice a len cap) d ps) :
    ∃ l : List Bool, len = l.length ∧ Kd.C Kd.bool w a l.length l ∧ l.length ≤ maxLen ∧ l.length ≤ cap := by
  obtain ⟨fuel, hf⟩ := h
  rcases open_bools ht he hc hf with ⟨hcs, _⟩ | ⟨x, n, c, Sx, hcs, _, hl, hm, _, hx⟩
  · simp [Value.cells] at hcs
    obtain ⟨rfl, rfl, rfl⟩ := hcs
    exact ⟨[], rfl, nil_C _ _, by simp, by simp⟩
  · simp [Value.cells] at hcs
    obtain ⟨rfl, rfl, rfl⟩ := hcs
    refine ⟨(List.range len).map Sx, by simp, range_C _ (Nat.le_trans hl hm) Sx (fun i hi => ⟨[.bool (Sx i)], rfl, rfl, fun j u hu => ?_⟩), by simpa using Nat.le_trans hl hm, by simpa using hl⟩
    obtain ⟨hj, rfl⟩ := List.getElem?_eq_some_iff.1 hu
    obtain rfl : j = 0 := by simpa using hj
    have := hx i (Nat.lt_of_lt_of_le hi hl)
    simpa [Kd.bool, Kd.scalar] using this
theorem row_ints {q : IntKind} (ht : P.underlying t = some (.slice e)) (he : P.underlying e = some (.int q)) (hc : P.cellsOf e = 1) (h : DataW.Trod enc P w base (fun _ => true) held t (.slice a len cap) d ps) :
    ∃ l : List Int, len = l.length ∧ Kd.C (Kd.int q) w a l.length l ∧ l.length ≤ maxLen ∧ l.length ≤ cap ∧ ∀ x ∈ l, (Lit.int q x).wf = true := by
  obtain ⟨fuel, hf⟩ := h
  rcases open_ints ht he hc hf with ⟨hcs, _⟩ | ⟨x, n, c, zs, hcs, _, hl, hm, hz, _, hx, hw⟩
  · simp [Value.cells] at hcs
    obtain ⟨rfl, rfl, rfl⟩ := hcs
    exact ⟨[], rfl, nil_C _ _, by simp, by simp, by simp⟩
  · simp [Value.cells] at hcs
    obtain ⟨rfl, rfl, rfl⟩ := hcs
    simp only [if_true] at hz
    refine ⟨(List.range len).map (fun i => zs.getD i 0), by simp, range_C _ (Nat.le_trans hl hm) _ (fun i hi => ⟨[.int q (zs.getD i 0)], rfl, rfl, fun j u hu => ?_⟩), by simpa using Nat.le_trans hl hm, by simpa using hl, ?_⟩
    · obtain ⟨hj, rfl⟩ := List.getElem?_eq_some_iff.1 hu
      obtain rfl : j = 0 := by simpa using hj
      have := hx i (by rw [hz]; exact Nat.lt_of_lt_of_le hi hl)
      simpa [Kd.int, Kd.scalar] using this
    · intro s hs
      obtain ⟨i, hi, rfl⟩ := List.mem_map.1 hs
      have hi' : i < zs.length := by rw [hz]; exact Nat.lt_of_lt_of_le (List.mem_range.1 hi) hl
      have : zs.getD i 0 = zs[i] := by simp [List.getD_eq_getElem?_getD, hi']
      rw [this]
      exact hw _ (List.getElem_mem hi')
theorem row_pairs {f0 f1 : Field} (ht : P.underlying t = some (.slice e)) (he : P.underlying e = some (.struct #[f0, f1])) (ce : P.cellsOf e = 2) (o0 : f0.offset = 0) (o1 : f1.offset = 1)
    (u0 : P.underlying f0.type = some (.int .i64)) (u1 : P.underlying f1.type = some (.int .i64)) (c0 : P.cellsOf f0.type = 1) (c1 : P.cellsOf f1.type = 1) (h : DataW.Trod enc P w base (fun _ => true) held t (.slice a len cap) d ps) :
    ∃ l : List S37, len = l.length ∧ Kd.C k37 w a l.length l ∧ l.length ≤ maxLen ∧ l.length ≤ cap ∧ ∀ x ∈ l, (Lit.int .i64 x.f0).wf = true ∧ (Lit.int .i64 x.f1).wf = true := by
  obtain ⟨fuel, hf⟩ := h
  rcases open_slice_pairs ht he ce o0 o1 c0 c1 hf with ⟨hcs, _⟩ | ⟨x, n, c, m, r, V0, V1, D0, D1, P0, P1, hcs, _, hl, hm, hmm, _, hx⟩
  · simp [Value.cells] at hcs
    obtain ⟨rfl, rfl, rfl⟩ := hcs
    exact ⟨[], rfl, nil_C _ _, by simp, by simp, by simp⟩
  · simp [Value.cells] at hcs
    obtain ⟨rfl, rfl, rfl⟩ := hcs
    simp only [if_true] at hmm
    subst hmm
    have each : ∀ i, i < len → ∃ s : S37, V0 i = .int .i64 s.f0 ∧ V1 i = .int .i64 s.f1 ∧ (Lit.int .i64 s.f0).wf = true ∧ (Lit.int .i64 s.f1).wf = true := by
      intro i hi
      obtain ⟨_, _, h0, h1⟩ := hx i (Nat.lt_of_lt_of_le hi hl)
      obtain ⟨p, e0, _, w0⟩ := DataW.trod_int u0 h0
      obtain ⟨q, e1, _, w1⟩ := DataW.trod_int u1 h1
      exact ⟨⟨p, q⟩, by simpa using e0, by simpa using e1, w0, w1⟩
    haveI : Inhabited S37 := ⟨⟨0, 0⟩⟩
    obtain ⟨Sx, hS⟩ := choose_lt each
    refine ⟨(List.range len).map Sx, by simp, range_C _ (Nat.le_trans hl hm) Sx (fun i hi => ⟨_, rfl, k37_mk w (Sx i), fun j u hu => ?_⟩), by simpa using Nat.le_trans hl hm, by simpa using hl, ?_⟩
    · obtain ⟨e0, e1, _, _⟩ := hx i (Nat.lt_of_lt_of_le hi hl)
      rw [(hS i hi).1] at e0
      rw [(hS i hi).2.1] at e1
      match j, hu with
      | 0, hu => simp at hu; subst hu; exact e0
      | 1, hu => simp at hu; subst hu; exact e1
    · intro s hs
      obtain ⟨i, hi, rfl⟩ := List.mem_map.1 hs
      exact (hS i (List.mem_range.1 hi)).2.2
end
end Go.Proofs.Ytadafplbgophfaa.PA
end
section
/- An array of three numbers among the arguments, opened. -/
namespace Go.Proofs.Ytadafplbgophfaa.PA
open Go Go.RowKit Go.ChangeShapes Go.WideShapes
set_option linter.unusedVariables false
variable {H : Type} {enc : TypeId × Value → H} {P : Program} {w : World} {base : Nat} {spare : Nat → Bool} {held : Bool}
theorem row_arr3 {r : Reach} {b0 : Nat} {t e : TypeId} {v : Value} {d : DataW H} {ps : List MemPlace} (ht : P.underlying t = some (.array 3 e)) (he : P.underlying e = some (.int .i64)) (hce : P.cellsOf e = 1) (hct : P.cellsOf t = 3)
    (hval : Value.okWide P w r b0 t v) (h : DataW.Trod enc P w base spare held t v d ps) : ∃ a b c : Int, v = .agg #[.int .i64 a, .int .i64 b, .int .i64 c] := by
  simp only [Value.okWide, ht] at hval
  obtain ⟨cs, rfl, h2, _⟩ := hval
  rw [hct] at h2
  obtain ⟨l⟩ := cs
  match l, h2 with
  | [c0, c1, c2], _ =>
    obtain ⟨fuel, hf⟩ := h
    obtain ⟨y0, y1, y2, n, _, g0, g1, g2⟩ := trod_array3 ht hce (show DataW.trod enc P w base spare held fuel t [c0, c1, c2] = some _ from hf)
    obtain ⟨a, e0, _, _⟩ := DataW.trod_int he g0
    obtain ⟨b, e1, _, _⟩ := DataW.trod_int he g1
    obtain ⟨c, e2, _, _⟩ := DataW.trod_int he g2
    simp only [List.cons.injEq, and_true] at e0 e1 e2
    subst e0 e1 e2
    exact ⟨a, b, c, rfl⟩
end Go.Proofs.Ytadafplbgophfaa.PA
end
