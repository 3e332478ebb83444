/- Part 3 of what the row of the law BuildHoists rests on: walks of functions, and plain lemmas (in part printed by the kit's print, what is not reached left out). -/
import Derived.Test.YtadafplbgophfaabuildHoists2
section
namespace Go.Proofs.Ytadafplbgophfaa.PA
open Go.RowKit Go.Proofs.YtadafplbgophfaaW.PrintWords Go.Proofs.YtadafplbgophfaaW.PrintLast Go.Proofs.YtadafplbgophfaaW.PrintMore
attribute [local go_sem] max2_int min2_int max_two min_two max_three min_three max_four min_four   -- for this text's walks alone
set_option linter.unusedVariables false
set_option linter.unusedSimpArgs false
set_option maxHeartbeats 40000000 in
set_option maxRecDepth 100000 in
theorem tripartiteref06_Of.calls (k : Nat) (a0 : Int) (a1 : Int) (a2 : Int) (A3 : Option Addr) (c3 : Nat) (l3 : List (S37)) (A4 : Option Addr) (c4 : Nat) (l4 : List (S37)) (r1 : List (S81)) (r2 : Bool) (w : World) (hr3 : Kd.C k37 w A3 l3.length l3) (hc3 : l3.length ≤ c3) (hr4 : Kd.C k37 w A4 l4.length l4) (hc4 : l4.length ≤ c4) (h : tripartiteref06_Of.f k a0 a1 a2 l3 l4 = some (r1, r2)) :
  Calls Try.prog 50 #[.int .i64 a0, .int .i64 a1, .int .i64 a2, .slice A3 l3.length c3, .slice A4 l4.length c4] w fun e w' => ∃ v0_ : Value, e = .returned (.tuple #[v0_, .bool r2]) ∧ Kd.R k81 81 w' w.heap.size (fun _ => True) v0_ r1 ∧ Below w.heap.size w w' := by
 have hu79 := Try.underlying79
 have hu81 := Try.underlying81
 have HR3 := Aside0.mk hr3
 have HC3 := Aside0.mk hc3
 clear hr3 hc3
 have HR4 := Aside0.mk hr4
 have HC4 := Aside0.mk hc4
 clear hr4 hc4
 have HB := Aside0.mk (Below.refl w.heap.size w)
 have H : (if a0 < 0 then (tripartiteref06_Of.j0 k a0 a1 a2 l3 l4 true) else (if a1 < 0 then (tripartiteref06_Of.j0 k a0 a1 a2 l3 l4 true) else (if a2 < 0 then (tripartiteref06_Of.j0 k a0 a1 a2 l3 l4 true) else ((tripartiteref06_rises.f k a0 a1 l3).bind fun t101 => (if t101 = true then ((tripartiteref06_rises.f k a0 a2 l4).bind fun t102 => (tripartiteref06_Of.j0 k a0 a1 a2 l3 l4 (!t102))) else (tripartiteref06_Of.j0 k a0 a1 a2 l3 l4 true)))))) = some (r1, r2) := h
 clear h
 have HC6 := Aside0.mk H
 clear H
 go_enter Try.func50, Try.ntmps50
 go_upto_region 1 with (fail)
 repeat (go_quiet (fail); go_upto_region 1 with (fail))
 go_cut [42] (fun v42 wc => ∃ (kq : Nat) (x42_5 : Bool), v42 = .bool x42_5 ∧ Aside0 (tripartiteref06_Of.j0 kq a0 a1 a2 l3 l4 x42_5 = some (r1, r2)) ∧ Aside0 (kq ≤ k) ∧ Aside0 (Below w.heap.size w wc))
 case first =>
  have H := HC6.out
  clear HC6
  by_cases c7 : a0 < 0
  ·rw [if_pos c7] at H
   have c7b0 : decide (a0 < 0) = true := decide_eq_true c7
   clear c7
   (first | rw [c7b0] | (simp only [i64_w, i32_w]; rw [c7b0]) | skip)
   have H' := Aside0.mk H
   clear H
   go_wp2
   repeat (go_quiet (fail); try go_wp2)
   go_meet
   case rel => exact ⟨_, (true), (by first | rfl | (simp; done) | (simp [*]; done)), H', ⟨by first | omega | exact Nat.le_refl _⟩, ⟨by repeat (first | (with_reducible first | exact HB.out | apply below_alloc | apply pw_below_drewN | apply below_drew1) | exact HB.out)⟩⟩
  ·rw [if_neg c7] at H
   have c7b0 : decide (a0 < 0) = false := decide_eq_false c7
   clear c7
   (first | rw [c7b0] | (simp only [i64_w, i32_w]; rw [c7b0]) | skip)
   by_cases c8 : a1 < 0
   ·rw [if_pos c8] at H
    have c8b0 : decide (a1 < 0) = true := decide_eq_true c8
    clear c8
    have H' := Aside0.mk H
    clear H
    go_wp2
    repeat (go_quiet (fail); try go_wp2)
    go_meet
    case rel => exact ⟨_, (true), (by first | rfl | (simp; done) | (simp [*]; done)), H', ⟨by first | omega | exact Nat.le_refl _⟩, ⟨by repeat (first | (with_reducible first | exact HB.out | apply below_alloc | apply pw_below_drewN | apply below_drew1) | exact HB.out)⟩⟩
   ·rw [if_neg c8] at H
    have c8b0 : decide (a1 < 0) = false := decide_eq_false c8
    clear c8
    by_cases c9 : a2 < 0
    ·rw [if_pos c9] at H
     have c9b0 : decide (a2 < 0) = true := decide_eq_true c9
     clear c9
     have H' := Aside0.mk H
     clear H
     go_wp2
     repeat (go_quiet (fail); try go_wp2)
     go_meet
     case rel => exact ⟨_, (true), (by first | rfl | (simp; done) | (simp [*]; done)), H', ⟨by first | omega | exact Nat.le_refl _⟩, ⟨by repeat (first | (with_reducible first | exact HB.out | apply below_alloc | apply pw_below_drewN | apply below_drew1) | exact HB.out)⟩⟩
    ·rw [if_neg c9] at H
     have c9b0 : decide (a2 < 0) = false := decide_eq_false c9
     clear c9
     replace H := Option.bind_eq_some_iff.mp H
     obtain ⟨t101, A100, H⟩ := H
     replace H : (if t101 = true then ((tripartiteref06_rises.f k a0 a2 l4).bind fun t102 => (tripartiteref06_Of.j0 k a0 a1 a2 l3 l4 (!t102))) else (tripartiteref06_Of.j0 k a0 a1 a2 l3 l4 true)) = some (r1, r2) := H
     have A10 := Aside0.mk A100
     clear A100
     by_cases c11 : t101 = true
     ·subst c11
      have H1 : ((tripartiteref06_rises.f k a0 a2 l4).bind fun t102 => (tripartiteref06_Of.j0 k a0 a1 a2 l3 l4 (!t102))) = some (r1, r2) := by rw [if_pos rfl] at H; exact H
      clear H
      have H := H1
      clear H1
      replace H := Option.bind_eq_some_iff.mp H
      obtain ⟨t102, A120, H⟩ := H
      replace H : (tripartiteref06_Of.j0 k a0 a1 a2 l3 l4 (!t102)) = some (r1, r2) := H
      have A12 := Aside0.mk A120
      clear A120
      have H' := Aside0.mk H
      clear H
      go_wp2_with (first | (go_at_call 94; (with_reducible refine (tripartiteref06_rises.calls k a0 a1 _ _ l3 true _ ?side1 ?side2 A10.out).mono ?_); (case side1 => repeat (first | exact (Kd.C_below HR3.out HB.out) | (with_reducible refine Kd.C_alloc ?_ _) | (with_reducible refine Kd.C_drewN ?_ _) | (with_reducible refine Kd.C_drew ?_))); (case side2 => exact HC3.out); rintro e w13 ⟨rfl, hb⟩; have n0_ := Aside0.mk (below_step (by repeat (first | (with_reducible first | exact HB.out | apply below_alloc | apply pw_below_drewN | apply below_drew1) | exact HB.out)) hb); clear HB; have HB := n0_; clear n0_; (try clear hb); (try clear hb2); (try clear hk); (try clear hi)) | (go_at_call 94; (with_reducible refine (tripartiteref06_rises.calls k a0 a2 _ _ l4 t102 _ ?side1 ?side2 A12.out).mono ?_); (case side1 => repeat (first | exact (Kd.C_below HR4.out HB.out) | (with_reducible refine Kd.C_alloc ?_ _) | (with_reducible refine Kd.C_drewN ?_ _) | (with_reducible refine Kd.C_drew ?_))); (case side2 => exact HC4.out); rintro e w14 ⟨rfl, hb⟩; have n0_ := Aside0.mk (below_step (by repeat (first | (with_reducible first | exact HB.out | apply below_alloc | apply pw_below_drewN | apply below_drew1) | exact HB.out)) hb); clear HB; have HB := n0_; clear n0_; (try clear hb); (try clear hb2); (try clear hk); (try clear hi)))
      repeat (go_quiet (first | (go_at_call 94; (with_reducible refine (tripartiteref06_rises.calls k a0 a1 _ _ l3 true _ ?side1 ?side2 A10.out).mono ?_); (case side1 => repeat (first | exact (Kd.C_below HR3.out HB.out) | (with_reducible refine Kd.C_alloc ?_ _) | (with_reducible refine Kd.C_drewN ?_ _) | (with_reducible refine Kd.C_drew ?_))); (case side2 => exact HC3.out); rintro e w13 ⟨rfl, hb⟩; have n0_ := Aside0.mk (below_step (by repeat (first | (with_reducible first | exact HB.out | apply below_alloc | apply pw_below_drewN | apply below_drew1) | exact HB.out)) hb); clear HB; have HB := n0_; clear n0_; (try clear hb); (try clear hb2); (try clear hk); (try clear hi)) | (go_at_call 94; (with_reducible refine (tripartiteref06_rises.calls k a0 a2 _ _ l4 t102 _ ?side1 ?side2 A12.out).mono ?_); (case side1 => repeat (first | exact (Kd.C_below HR4.out HB.out) | (with_reducible refine Kd.C_alloc ?_ _) | (with_reducible refine Kd.C_drewN ?_ _) | (with_reducible refine Kd.C_drew ?_))); (case side2 => exact HC4.out); rintro e w14 ⟨rfl, hb⟩; have n0_ := Aside0.mk (below_step (by repeat (first | (with_reducible first | exact HB.out | apply below_alloc | apply pw_below_drewN | apply below_drew1) | exact HB.out)) hb); clear HB; have HB := n0_; clear n0_; (try clear hb); (try clear hb2); (try clear hk); (try clear hi))); try go_wp2_with (first | (go_at_call 94; (with_reducible refine (tripartiteref06_rises.calls k a0 a1 _ _ l3 true _ ?side1 ?side2 A10.out).mono ?_); (case side1 => repeat (first | exact (Kd.C_below HR3.out HB.out) | (with_reducible refine Kd.C_alloc ?_ _) | (with_reducible refine Kd.C_drewN ?_ _) | (with_reducible refine Kd.C_drew ?_))); (case side2 => exact HC3.out); rintro e w13 ⟨rfl, hb⟩; have n0_ := Aside0.mk (below_step (by repeat (first | (with_reducible first | exact HB.out | apply below_alloc | apply pw_below_drewN | apply below_drew1) | exact HB.out)) hb); clear HB; have HB := n0_; clear n0_; (try clear hb); (try clear hb2); (try clear hk); (try clear hi)) | (go_at_call 94; (with_reducible refine (tripartiteref06_rises.calls k a0 a2 _ _ l4 t102 _ ?side1 ?side2 A12.out).mono ?_); (case side1 => repeat (first | exact (Kd.C_below HR4.out HB.out) | (with_reducible refine Kd.C_alloc ?_ _) | (with_reducible refine Kd.C_drewN ?_ _) | (with_reducible refine Kd.C_drew ?_))); (case side2 => exact HC4.out); rintro e w14 ⟨rfl, hb⟩; have n0_ := Aside0.mk (below_step (by repeat (first | (with_reducible first | exact HB.out | apply below_alloc | apply pw_below_drewN | apply below_drew1) | exact HB.out)) hb); clear HB; have HB := n0_; clear n0_; (try clear hb); (try clear hb2); (try clear hk); (try clear hi))))
      go_meet
      case rel => exact ⟨_, (!t102), (by first | rfl | (simp; done) | (simp [*]; done)), H', ⟨by first | omega | exact Nat.le_refl _⟩, ⟨by repeat (first | (with_reducible first | exact HB.out | apply below_alloc | apply pw_below_drewN | apply below_drew1) | exact HB.out)⟩⟩
     ·replace c11 := Bool.eq_false_iff.mpr c11
      subst c11
      have H1 : (tripartiteref06_Of.j0 k a0 a1 a2 l3 l4 true) = some (r1, r2) := by rw [if_neg (show ¬ (false = true) by decide)] at H; exact H
      clear H
      have H := H1
      clear H1
      have H' := Aside0.mk H
      clear H
      go_wp2_with (first | (go_at_call 94; (with_reducible refine (tripartiteref06_rises.calls k a0 a1 _ _ l3 false _ ?side1 ?side2 A10.out).mono ?_); (case side1 => repeat (first | exact (Kd.C_below HR3.out HB.out) | (with_reducible refine Kd.C_alloc ?_ _) | (with_reducible refine Kd.C_drewN ?_ _) | (with_reducible refine Kd.C_drew ?_))); (case side2 => exact HC3.out); rintro e w15 ⟨rfl, hb⟩; have n0_ := Aside0.mk (below_step (by repeat (first | (with_reducible first | exact HB.out | apply below_alloc | apply pw_below_drewN | apply below_drew1) | exact HB.out)) hb); clear HB; have HB := n0_; clear n0_; (try clear hb); (try clear hb2); (try clear hk); (try clear hi)))
      repeat (go_quiet (first | (go_at_call 94; (with_reducible refine (tripartiteref06_rises.calls k a0 a1 _ _ l3 false _ ?side1 ?side2 A10.out).mono ?_); (case side1 => repeat (first | exact (Kd.C_below HR3.out HB.out) | (with_reducible refine Kd.C_alloc ?_ _) | (with_reducible refine Kd.C_drewN ?_ _) | (with_reducible refine Kd.C_drew ?_))); (case side2 => exact HC3.out); rintro e w15 ⟨rfl, hb⟩; have n0_ := Aside0.mk (below_step (by repeat (first | (with_reducible first | exact HB.out | apply below_alloc | apply pw_below_drewN | apply below_drew1) | exact HB.out)) hb); clear HB; have HB := n0_; clear n0_; (try clear hb); (try clear hb2); (try clear hk); (try clear hi))); try go_wp2_with (first | (go_at_call 94; (with_reducible refine (tripartiteref06_rises.calls k a0 a1 _ _ l3 false _ ?side1 ?side2 A10.out).mono ?_); (case side1 => repeat (first | exact (Kd.C_below HR3.out HB.out) | (with_reducible refine Kd.C_alloc ?_ _) | (with_reducible refine Kd.C_drewN ?_ _) | (with_reducible refine Kd.C_drew ?_))); (case side2 => exact HC3.out); rintro e w15 ⟨rfl, hb⟩; have n0_ := Aside0.mk (below_step (by repeat (first | (with_reducible first | exact HB.out | apply below_alloc | apply pw_below_drewN | apply below_drew1) | exact HB.out)) hb); clear HB; have HB := n0_; clear n0_; (try clear hb); (try clear hb2); (try clear hk); (try clear hi))))
      go_meet
      case rel => exact ⟨_, (true), (by first | rfl | (simp; done) | (simp [*]; done)), H', ⟨by first | omega | exact Nat.le_refl _⟩, ⟨by repeat (first | (with_reducible first | exact HB.out | apply below_alloc | apply pw_below_drewN | apply below_drew1) | exact HB.out)⟩⟩
 case rest =>
  clear HC6
  try clear c1
  try clear p2
  try clear c3
  try clear c4
  try clear c5
  try clear c7
  try clear c7b0
  try clear c8
  try clear c8b0
  try clear c9
  try clear c9b0
  try clear c11
  obtain ⟨kq, x42_5, rfl, HA, HJ5, HB⟩ := hcut
  cases kq with
  | zero => exact absurd HA.out (by simp [tripartiteref06_Of.j0])
  | succ kj5 =>
   have H := HA.out
   clear HA
   simp only [tripartiteref06_Of.j0] at H
   by_cases c16 : x42_5 = true
   ·subst c16
    have H1 : (some (([] : List (S81)), false)) = some (r1, r2) := by rw [if_pos rfl] at H; exact H
    clear H
    have H := H1
    clear H1
    simp only [Option.some.injEq, Prod.mk.injEq] at H
    obtain ⟨rfl, rfl⟩ := H
    go_wp2
    repeat (go_quiet (fail); try go_wp2)
    go_ret2
    exact ⟨_, by first | rfl | (simp [errW_none, errW_some] <;> rfl) | (simp [*, errW_none, errW_some] <;> rfl), by first | exact Kd.R_nil _ _ _ _ _ | exact Kd.N_nil _ _ _ _ _ | exact Kd.V_nil _ _ _ _ _ | exact Kd.Q_nil _ _ _ _ _ | exact Kd.S_nil _ _ _ _ _, by repeat (first | (with_reducible first | exact HB.out | apply below_alloc | apply pw_below_drewN | apply below_drew1) | exact HB.out)⟩
   ·replace c16 := Bool.eq_false_iff.mpr c16
    subst c16
    have H1 : (tripartiteref06_Of.l0 kj5 a0 a1 a2 l3 l4 ([] : List (S81)) 0 0 0) = some (r1, r2) := by rw [if_neg (show ¬ (false = true) by decide)] at H; exact H
    clear H
    have H := H1
    clear H1
    have H' := Aside0.mk H
    clear H
    go_wp2
    repeat (go_quiet (fail); try go_wp2)
    go_loopg [12, 13, 14, 15] kj5 (fun kq v12 v13 v14 v15 w' => ∃ (x12_2 : List (S81)) (x13_2 : Int) (x14_2 : Int) (x15_2 : Int), v13 = .int .i64 x13_2 ∧ v14 = .int .i64 x14_2 ∧ v15 = .int .i64 x15_2 ∧ Aside0 (tripartiteref06_Of.l0 kq a0 a1 a2 l3 l4 x12_2 x13_2 x14_2 x15_2 = some (r1, r2)) ∧ Aside0 (kq ≤ kj5) ∧ Aside0 (Kd.R k81 81 w' w.heap.size (fun _ => True) v12 x12_2) ∧ Aside0 (Below w.heap.size w w'))
    case atStart => exact ⟨(([] : List (S81))), (0), (0), (0), (by first | rfl | (simp; done) | (simp [*]; done)), (by first | rfl | (simp; done) | (simp [*]; done)), (by first | rfl | (simp; done) | (simp [*]; done)), H', ⟨Nat.le_refl _⟩, ⟨by first | exact Kd.R_nil _ _ _ _ _ | exact Kd.N_nil _ _ _ _ _ | exact Kd.V_nil _ _ _ _ _ | exact Kd.Q_nil _ _ _ _ _ | exact Kd.S_nil _ _ _ _ _⟩, ⟨by repeat (first | (with_reducible first | exact HB.out | apply below_alloc | apply pw_below_drewN | apply below_drew1) | exact HB.out)⟩⟩
    case round =>
     clear H'
     try clear c1
     try clear p2
     try clear c3
     try clear c4
     try clear c5
     try clear c7
     try clear c7b0
     try clear c8
     try clear c8b0
     try clear c9
     try clear c9b0
     try clear c11
     try clear c16
     try clear p2
     obtain ⟨x12_2, x13_2, x14_2, x15_2, rfl, rfl, rfl, HA, HK2, HO_12, HB⟩ := hrel
     cases gk with
     | zero => exact absurd HA.out (by simp [tripartiteref06_Of.l0])
     | succ k2 =>
      have H := HA.out
      clear HA
      simp only [tripartiteref06_Of.l0] at H
      have HC17 := Aside0.mk H
      clear H
      go_upto_region 5 with (fail)
      repeat (go_quiet (fail); go_upto_region 5 with (fail))
      go_cut [55] (fun v55 wc => ∃ (kq : Nat) (x55_16 : Bool), v55 = .bool x55_16 ∧ Aside0 (tripartiteref06_Of.j2 kq a0 a1 a2 l3 l4 x12_2 x13_2 x14_2 x15_2 x55_16 = some (r1, r2)) ∧ Aside0 (kq ≤ k2) ∧ Aside0 (Kd.R k81 81 wc w.heap.size (fun _ => True) u12 x12_2) ∧ Aside0 (Below w.heap.size w wc))
      case first =>
       have H := HC17.out
       clear HC17
       by_cases c18 : x13_2 < a0
       ·rw [if_pos c18] at H
        have c18b0 : decide (x13_2 < a0) = true := decide_eq_true c18
        clear c18
        (first | rw [c18b0] | (simp only [i64_w, i32_w]; rw [c18b0]) | skip)
        have H' := Aside0.mk H
        clear H
        go_wp2
        repeat (go_quiet (fail); try go_wp2)
        go_meet
        case rel => exact ⟨_, (true), (by first | rfl | (simp; done) | (simp [*]; done)), H', ⟨by have := HJ5.out; have := HK2.out; first | omega | exact Nat.le_refl _⟩, ⟨by (with_reducible repeat (first | apply Kd.R_alloc | apply Kd.R_drewN | apply Kd.R_drew)); exact HO_12.out⟩, ⟨by repeat (first | (with_reducible first | exact HB.out | apply below_alloc | apply pw_below_drewN | apply below_drew1) | exact HB.out)⟩⟩
       ·rw [if_neg c18] at H
        have c18b0 : decide (x13_2 < a0) = false := decide_eq_false c18
        clear c18
        (first | rw [c18b0] | (simp only [i64_w, i32_w]; rw [c18b0]) | skip)
        by_cases c19 : x14_2 < a1
        ·rw [if_pos c19] at H
         have c19b0 : decide (x14_2 < a1) = true := decide_eq_true c19
         clear c19
         have H' := Aside0.mk H
         clear H
         go_wp2
         repeat (go_quiet (fail); try go_wp2)
         go_meet
         case rel => exact ⟨_, (true), (by first | rfl | (simp; done) | (simp [*]; done)), H', ⟨by have := HJ5.out; have := HK2.out; first | omega | exact Nat.le_refl _⟩, ⟨by (with_reducible repeat (first | apply Kd.R_alloc | apply Kd.R_drewN | apply Kd.R_drew)); exact HO_12.out⟩, ⟨by repeat (first | (with_reducible first | exact HB.out | apply below_alloc | apply pw_below_drewN | apply below_drew1) | exact HB.out)⟩⟩
        ·rw [if_neg c19] at H
         have c19b0 : decide (x14_2 < a1) = false := decide_eq_false c19
         clear c19
         have H' := Aside0.mk H
         clear H
         go_wp2
         repeat (go_quiet (fail); try go_wp2)
         go_meet
         case rel => exact ⟨_, (decide (x15_2 < a2)), (by first | rfl | (simp; done) | (simp [*]; done)), H', ⟨by have := HJ5.out; have := HK2.out; first | omega | exact Nat.le_refl _⟩, ⟨by (with_reducible repeat (first | apply Kd.R_alloc | apply Kd.R_drewN | apply Kd.R_drew)); exact HO_12.out⟩, ⟨by repeat (first | (with_reducible first | exact HB.out | apply below_alloc | apply pw_below_drewN | apply below_drew1) | exact HB.out)⟩⟩
      case rest =>
       clear HC17
       try clear c1
       try clear p2
       try clear c3
       try clear c4
       try clear c5
       try clear c7
       try clear c7b0
       try clear c8
       try clear c8b0
       try clear c9
       try clear c9b0
       try clear c11
       try clear c16
       try clear c18
       try clear c18b0
       try clear c19
       try clear c19b0
       try clear p2
       obtain ⟨kq, x55_16, rfl, HA, HJ16, HO_12, HB⟩ := hcut
       cases kq with
       | zero => exact absurd HA.out (by simp [tripartiteref06_Of.j2])
       | succ kj16 =>
        have H := HA.out
        clear HA
        simp only [tripartiteref06_Of.j2] at H
        by_cases c20 : x55_16 = true
        ·subst c20
         have H1 : (tripartiteref06_Of.l1 kj16 a0 a1 a2 l3 l4 x12_2 x13_2 x14_2 x15_2 0) = some (r1, r2) := by rw [if_pos rfl] at H; exact H
         clear H
         have H := H1
         clear H1
         have HC21 := Aside0.mk H
         clear H
         go_upto_block 2 with (fail)
         repeat (go_quiet (fail); go_upto_block 2 with (fail))
         go_cut [16] (fun v16 wc => ∃ (kq : Nat) (x16_20 : Int), v16 = .int .i64 x16_20 ∧ Aside0 (tripartiteref06_Of.j4 kq a0 a1 a2 l3 l4 x12_2 x13_2 x14_2 x15_2 x16_20 = some (r1, r2)) ∧ Aside0 (kq ≤ kj16) ∧ Aside0 (Kd.R k81 81 wc w.heap.size (fun _ => True) u12 x12_2) ∧ Aside0 (Below w.heap.size w wc))
         case first =>
          have H := HC21.out
          clear HC21
          have H' := Aside0.mk H
          clear H
          go_wp2
          repeat (go_quiet (fail); try go_wp2)
          go_loopg [16] kj16 (fun kq v16 w' => ∃ (x16_4 : Int), v16 = .int .i64 x16_4 ∧ Aside0 (tripartiteref06_Of.l1 kq a0 a1 a2 l3 l4 x12_2 x13_2 x14_2 x15_2 x16_4 = some (r1, r2)) ∧ Aside0 (kq ≤ kj16) ∧ Aside0 (Kd.R k81 81 w' w.heap.size (fun _ => True) u12 x12_2) ∧ Aside0 (Below w.heap.size w w'))
          case atStart => exact ⟨(0), (by first | rfl | (simp; done) | (simp [*]; done)), H', ⟨Nat.le_refl _⟩, ⟨by (with_reducible repeat (first | apply Kd.R_alloc | apply Kd.R_drewN | apply Kd.R_drew)); exact HO_12.out⟩, ⟨by repeat (first | (with_reducible first | exact HB.out | apply below_alloc | apply pw_below_drewN | apply below_drew1) | exact HB.out)⟩⟩
          case round =>
           clear H'
           try clear c1
           try clear c2
           try clear p2
           try clear c3
           try clear c4
           try clear c5
           try clear c7
           try clear c7b0
           try clear c8
           try clear c8b0
           try clear c9
           try clear c9b0
           try clear c11
           try clear c16
           try clear c18
           try clear c18b0
           try clear c19
           try clear c19b0
           try clear c20
           try clear p2
           obtain ⟨x16_4, rfl, HA, HK4, HO_12, HB⟩ := hrel
           cases gk with
           | zero => exact absurd HA.out (by simp [tripartiteref06_Of.l1])
           | succ k4 =>
            have H := HA.out
            clear HA
            simp only [tripartiteref06_Of.l1] at H
            by_cases c22 : (wrap64 (x13_2 + x16_4)) < a0
            ·rw [if_pos c22] at H
             have c22b0 : decide ((wrap64 (x13_2 + x16_4)) < a0) = true := decide_eq_true c22
             clear c22
             (first | rw [c22b0] | (simp only [i64_w, i32_w]; rw [c22b0]) | skip)
             replace H := Option.bind_eq_some_iff.mp H
             obtain ⟨t103, A230, H⟩ := H
             replace H : (if t103 = (wrap64 (x14_2 + x16_4)) then ((tripartiteref06_at.f k4 l4 (wrap64 (x13_2 + x16_4))).bind fun t104 => (if t104 = (wrap64 (x15_2 + x16_4)) then (tripartiteref06_Of.l1 k4 a0 a1 a2 l3 l4 x12_2 x13_2 x14_2 x15_2 (wrap64 (x16_4 + 1))) else (tripartiteref06_Of.j4 k4 a0 a1 a2 l3 l4 x12_2 x13_2 x14_2 x15_2 x16_4))) else (tripartiteref06_Of.j4 k4 a0 a1 a2 l3 l4 x12_2 x13_2 x14_2 x15_2 x16_4)) = some (r1, r2) := H
             have A23 := Aside0.mk A230
             clear A230
             by_cases c24 : t103 = (wrap64 (x14_2 + x16_4))
             ·rw [if_pos c24] at H
              have c24b0 : (t103 == (wrap64 (x14_2 + x16_4))) = true := beq_iff_eq.mpr c24
              have c24b1 : (t103 != (wrap64 (x14_2 + x16_4))) = false := bne_eq_false_iff_eq.mpr c24
              clear c24
              replace H := Option.bind_eq_some_iff.mp H
              obtain ⟨t104, A250, H⟩ := H
              replace H : (if t104 = (wrap64 (x15_2 + x16_4)) then (tripartiteref06_Of.l1 k4 a0 a1 a2 l3 l4 x12_2 x13_2 x14_2 x15_2 (wrap64 (x16_4 + 1))) else (tripartiteref06_Of.j4 k4 a0 a1 a2 l3 l4 x12_2 x13_2 x14_2 x15_2 x16_4)) = some (r1, r2) := H
              have A25 := Aside0.mk A250
              clear A250
              by_cases c26 : t104 = (wrap64 (x15_2 + x16_4))
              ·rw [if_pos c26] at H
               have c26b0 : (t104 == (wrap64 (x15_2 + x16_4))) = true := beq_iff_eq.mpr c26
               have c26b1 : (t104 != (wrap64 (x15_2 + x16_4))) = false := bne_eq_false_iff_eq.mpr c26
               clear c26
               have H' := Aside0.mk H
               clear H
               go_wp2_with (first | (go_at_call 95; (with_reducible refine (tripartiteref06_at.calls k4 _ _ l3 (wrap64 (x13_2 + x16_4)) t103 _ ?side1 ?side2 A23.out).mono ?_); (case side1 => repeat (first | exact (Kd.C_below HR3.out HB.out) | (with_reducible refine Kd.C_alloc ?_ _) | (with_reducible refine Kd.C_drewN ?_ _) | (with_reducible refine Kd.C_drew ?_))); (case side2 => exact HC3.out); rintro e w' ⟨rfl, ⟨nd, rfl⟩⟩; (try first | exact ⟨rfl, _, World.drewN_drewN _ _ _⟩ | exact ⟨rfl, _, Eq.trans (World.drewN_drewN _ _ _) (congrArg (World.drewN _) (Nat.add_assoc _ _ _))⟩)) | (go_at_call 95; (with_reducible refine (tripartiteref06_at.calls k4 _ _ l4 (wrap64 (x13_2 + x16_4)) t104 _ ?side1 ?side2 A25.out).mono ?_); (case side1 => repeat (first | exact (Kd.C_below HR4.out (by repeat (first | (with_reducible first | exact HB.out | apply below_alloc | apply pw_below_drewN | apply below_drew1) | exact HB.out))) | (with_reducible refine Kd.C_alloc ?_ _) | (with_reducible refine Kd.C_drewN ?_ _) | (with_reducible refine Kd.C_drew ?_))); (case side2 => exact HC4.out); rintro e w' ⟨rfl, ⟨nd, rfl⟩⟩; (try first | exact ⟨rfl, _, World.drewN_drewN _ _ _⟩ | exact ⟨rfl, _, Eq.trans (World.drewN_drewN _ _ _) (congrArg (World.drewN _) (Nat.add_assoc _ _ _))⟩)))
               repeat (go_quiet (first | (go_at_call 95; (with_reducible refine (tripartiteref06_at.calls k4 _ _ l3 (wrap64 (x13_2 + x16_4)) t103 _ ?side1 ?side2 A23.out).mono ?_); (case side1 => repeat (first | exact (Kd.C_below HR3.out HB.out) | (with_reducible refine Kd.C_alloc ?_ _) | (with_reducible refine Kd.C_drewN ?_ _) | (with_reducible refine Kd.C_drew ?_))); (case side2 => exact HC3.out); rintro e w' ⟨rfl, ⟨nd, rfl⟩⟩; (try first | exact ⟨rfl, _, World.drewN_drewN _ _ _⟩ | exact ⟨rfl, _, Eq.trans (World.drewN_drewN _ _ _) (congrArg (World.drewN _) (Nat.add_assoc _ _ _))⟩)) | (go_at_call 95; (with_reducible refine (tripartiteref06_at.calls k4 _ _ l4 (wrap64 (x13_2 + x16_4)) t104 _ ?side1 ?side2 A25.out).mono ?_); (case side1 => repeat (first | exact (Kd.C_below HR4.out (by repeat (first | (with_reducible first | exact HB.out | apply below_alloc | apply pw_below_drewN | apply below_drew1) | exact HB.out))) | (with_reducible refine Kd.C_alloc ?_ _) | (with_reducible refine Kd.C_drewN ?_ _) | (with_reducible refine Kd.C_drew ?_))); (case side2 => exact HC4.out); rintro e w' ⟨rfl, ⟨nd, rfl⟩⟩; (try first | exact ⟨rfl, _, World.drewN_drewN _ _ _⟩ | exact ⟨rfl, _, Eq.trans (World.drewN_drewN _ _ _) (congrArg (World.drewN _) (Nat.add_assoc _ _ _))⟩))); try go_wp2_with (first | (go_at_call 95; (with_reducible refine (tripartiteref06_at.calls k4 _ _ l3 (wrap64 (x13_2 + x16_4)) t103 _ ?side1 ?side2 A23.out).mono ?_); (case side1 => repeat (first | exact (Kd.C_below HR3.out HB.out) | (with_reducible refine Kd.C_alloc ?_ _) | (with_reducible refine Kd.C_drewN ?_ _) | (with_reducible refine Kd.C_drew ?_))); (case side2 => exact HC3.out); rintro e w' ⟨rfl, ⟨nd, rfl⟩⟩; (try first | exact ⟨rfl, _, World.drewN_drewN _ _ _⟩ | exact ⟨rfl, _, Eq.trans (World.drewN_drewN _ _ _) (congrArg (World.drewN _) (Nat.add_assoc _ _ _))⟩)) | (go_at_call 95; (with_reducible refine (tripartiteref06_at.calls k4 _ _ l4 (wrap64 (x13_2 + x16_4)) t104 _ ?side1 ?side2 A25.out).mono ?_); (case side1 => repeat (first | exact (Kd.C_below HR4.out (by repeat (first | (with_reducible first | exact HB.out | apply below_alloc | apply pw_below_drewN | apply below_drew1) | exact HB.out))) | (with_reducible refine Kd.C_alloc ?_ _) | (with_reducible refine Kd.C_drewN ?_ _) | (with_reducible refine Kd.C_drew ?_))); (case side2 => exact HC4.out); rintro e w' ⟨rfl, ⟨nd, rfl⟩⟩; (try first | exact ⟨rfl, _, World.drewN_drewN _ _ _⟩ | exact ⟨rfl, _, Eq.trans (World.drewN_drewN _ _ _) (congrArg (World.drewN _) (Nat.add_assoc _ _ _))⟩))))
               go_roundg k4
               case measure => have := HJ5.out; have := HK2.out; have := HJ16.out; have := HK4.out; omega
               case rel => exact ⟨(wrap64 (x16_4 + 1)), (by first | rfl | (simp; done) | (simp [*]; done)), H', ⟨by have := HJ5.out; have := HK2.out; have := HJ16.out; have := HK4.out; omega⟩, ⟨by (with_reducible repeat (first | apply Kd.R_alloc | apply Kd.R_drewN | apply Kd.R_drew)); exact HO_12.out⟩, ⟨by repeat (first | (with_reducible first | exact HB.out | apply below_alloc | apply pw_below_drewN | apply below_drew1) | exact HB.out)⟩⟩
              ·rw [if_neg c26] at H
               have c26b0 : (t104 == (wrap64 (x15_2 + x16_4))) = false := beq_eq_false_iff_ne.mpr c26
               have c26b1 : (t104 != (wrap64 (x15_2 + x16_4))) = true := bne_iff_ne.mpr c26
               have H' := Aside0.mk H
               clear H
               go_wp2_with (first | (go_at_call 95; (with_reducible refine (tripartiteref06_at.calls k4 _ _ l3 (wrap64 (x13_2 + x16_4)) t103 _ ?side1 ?side2 A23.out).mono ?_); (case side1 => repeat (first | exact (Kd.C_below HR3.out HB.out) | (with_reducible refine Kd.C_alloc ?_ _) | (with_reducible refine Kd.C_drewN ?_ _) | (with_reducible refine Kd.C_drew ?_))); (case side2 => exact HC3.out); rintro e w' ⟨rfl, ⟨nd, rfl⟩⟩; (try first | exact ⟨rfl, _, World.drewN_drewN _ _ _⟩ | exact ⟨rfl, _, Eq.trans (World.drewN_drewN _ _ _) (congrArg (World.drewN _) (Nat.add_assoc _ _ _))⟩)) | (go_at_call 95; (with_reducible refine (tripartiteref06_at.calls k4 _ _ l4 (wrap64 (x13_2 + x16_4)) t104 _ ?side1 ?side2 A25.out).mono ?_); (case side1 => repeat (first | exact (Kd.C_below HR4.out (by repeat (first | (with_reducible first | exact HB.out | apply below_alloc | apply pw_below_drewN | apply below_drew1) | exact HB.out))) | (with_reducible refine Kd.C_alloc ?_ _) | (with_reducible refine Kd.C_drewN ?_ _) | (with_reducible refine Kd.C_drew ?_))); (case side2 => exact HC4.out); rintro e w' ⟨rfl, ⟨nd, rfl⟩⟩; (try first | exact ⟨rfl, _, World.drewN_drewN _ _ _⟩ | exact ⟨rfl, _, Eq.trans (World.drewN_drewN _ _ _) (congrArg (World.drewN _) (Nat.add_assoc _ _ _))⟩)))
               repeat (go_quiet (first | (go_at_call 95; (with_reducible refine (tripartiteref06_at.calls k4 _ _ l3 (wrap64 (x13_2 + x16_4)) t103 _ ?side1 ?side2 A23.out).mono ?_); (case side1 => repeat (first | exact (Kd.C_below HR3.out HB.out) | (with_reducible refine Kd.C_alloc ?_ _) | (with_reducible refine Kd.C_drewN ?_ _) | (with_reducible refine Kd.C_drew ?_))); (case side2 => exact HC3.out); rintro e w' ⟨rfl, ⟨nd, rfl⟩⟩; (try first | exact ⟨rfl, _, World.drewN_drewN _ _ _⟩ | exact ⟨rfl, _, Eq.trans (World.drewN_drewN _ _ _) (congrArg (World.drewN _) (Nat.add_assoc _ _ _))⟩)) | (go_at_call 95; (with_reducible refine (tripartiteref06_at.calls k4 _ _ l4 (wrap64 (x13_2 + x16_4)) t104 _ ?side1 ?side2 A25.out).mono ?_); (case side1 => repeat (first | exact (Kd.C_below HR4.out (by repeat (first | (with_reducible first | exact HB.out | apply below_alloc | apply pw_below_drewN | apply below_drew1) | exact HB.out))) | (with_reducible refine Kd.C_alloc ?_ _) | (with_reducible refine Kd.C_drewN ?_ _) | (with_reducible refine Kd.C_drew ?_))); (case side2 => exact HC4.out); rintro e w' ⟨rfl, ⟨nd, rfl⟩⟩; (try first | exact ⟨rfl, _, World.drewN_drewN _ _ _⟩ | exact ⟨rfl, _, Eq.trans (World.drewN_drewN _ _ _) (congrArg (World.drewN _) (Nat.add_assoc _ _ _))⟩))); try go_wp2_with (first | (go_at_call 95; (with_reducible refine (tripartiteref06_at.calls k4 _ _ l3 (wrap64 (x13_2 + x16_4)) t103 _ ?side1 ?side2 A23.out).mono ?_); (case side1 => repeat (first | exact (Kd.C_below HR3.out HB.out) | (with_reducible refine Kd.C_alloc ?_ _) | (with_reducible refine Kd.C_drewN ?_ _) | (with_reducible refine Kd.C_drew ?_))); (case side2 => exact HC3.out); rintro e w' ⟨rfl, ⟨nd, rfl⟩⟩; (try first | exact ⟨rfl, _, World.drewN_drewN _ _ _⟩ | exact ⟨rfl, _, Eq.trans (World.drewN_drewN _ _ _) (congrArg (World.drewN _) (Nat.add_assoc _ _ _))⟩)) | (go_at_call 95; (with_reducible refine (tripartiteref06_at.calls k4 _ _ l4 (wrap64 (x13_2 + x16_4)) t104 _ ?side1 ?side2 A25.out).mono ?_); (case side1 => repeat (first | exact (Kd.C_below HR4.out (by repeat (first | (with_reducible first | exact HB.out | apply below_alloc | apply pw_below_drewN | apply below_drew1) | exact HB.out))) | (with_reducible refine Kd.C_alloc ?_ _) | (with_reducible refine Kd.C_drewN ?_ _) | (with_reducible refine Kd.C_drew ?_))); (case side2 => exact HC4.out); rintro e w' ⟨rfl, ⟨nd, rfl⟩⟩; (try first | exact ⟨rfl, _, World.drewN_drewN _ _ _⟩ | exact ⟨rfl, _, Eq.trans (World.drewN_drewN _ _ _) (congrArg (World.drewN _) (Nat.add_assoc _ _ _))⟩))))
               go_meet
               case rel => exact ⟨_, (x16_4), (by first | rfl | (simp; done) | (simp [*]; done)), H', ⟨by have := HJ5.out; have := HK2.out; have := HJ16.out; have := HK4.out; first | omega | exact Nat.le_refl _⟩, ⟨by (with_reducible repeat (first | apply Kd.R_alloc | apply Kd.R_drewN | apply Kd.R_drew)); exact HO_12.out⟩, ⟨by repeat (first | (with_reducible first | exact HB.out | apply below_alloc | apply pw_below_drewN | apply below_drew1) | exact HB.out)⟩⟩
             ·rw [if_neg c24] at H
              have c24b0 : (t103 == (wrap64 (x14_2 + x16_4))) = false := beq_eq_false_iff_ne.mpr c24
              have c24b1 : (t103 != (wrap64 (x14_2 + x16_4))) = true := bne_iff_ne.mpr c24
              have H' := Aside0.mk H
              clear H
              go_wp2_with (first | (go_at_call 95; (with_reducible refine (tripartiteref06_at.calls k4 _ _ l3 (wrap64 (x13_2 + x16_4)) t103 _ ?side1 ?side2 A23.out).mono ?_); (case side1 => repeat (first | exact (Kd.C_below HR3.out HB.out) | (with_reducible refine Kd.C_alloc ?_ _) | (with_reducible refine Kd.C_drewN ?_ _) | (with_reducible refine Kd.C_drew ?_))); (case side2 => exact HC3.out); rintro e w' ⟨rfl, ⟨nd, rfl⟩⟩; (try first | exact ⟨rfl, _, World.drewN_drewN _ _ _⟩ | exact ⟨rfl, _, Eq.trans (World.drewN_drewN _ _ _) (congrArg (World.drewN _) (Nat.add_assoc _ _ _))⟩)))
              repeat (go_quiet (first | (go_at_call 95; (with_reducible refine (tripartiteref06_at.calls k4 _ _ l3 (wrap64 (x13_2 + x16_4)) t103 _ ?side1 ?side2 A23.out).mono ?_); (case side1 => repeat (first | exact (Kd.C_below HR3.out HB.out) | (with_reducible refine Kd.C_alloc ?_ _) | (with_reducible refine Kd.C_drewN ?_ _) | (with_reducible refine Kd.C_drew ?_))); (case side2 => exact HC3.out); rintro e w' ⟨rfl, ⟨nd, rfl⟩⟩; (try first | exact ⟨rfl, _, World.drewN_drewN _ _ _⟩ | exact ⟨rfl, _, Eq.trans (World.drewN_drewN _ _ _) (congrArg (World.drewN _) (Nat.add_assoc _ _ _))⟩))); try go_wp2_with (first | (go_at_call 95; (with_reducible refine (tripartiteref06_at.calls k4 _ _ l3 (wrap64 (x13_2 + x16_4)) t103 _ ?side1 ?side2 A23.out).mono ?_); (case side1 => repeat (first | exact (Kd.C_below HR3.out HB.out) | (with_reducible refine Kd.C_alloc ?_ _) | (with_reducible refine Kd.C_drewN ?_ _) | (with_reducible refine Kd.C_drew ?_))); (case side2 => exact HC3.out); rintro e w' ⟨rfl, ⟨nd, rfl⟩⟩; (try first | exact ⟨rfl, _, World.drewN_drewN _ _ _⟩ | exact ⟨rfl, _, Eq.trans (World.drewN_drewN _ _ _) (congrArg (World.drewN _) (Nat.add_assoc _ _ _))⟩))))
              go_meet
              case rel => exact ⟨_, (x16_4), (by first | rfl | (simp; done) | (simp [*]; done)), H', ⟨by have := HJ5.out; have := HK2.out; have := HJ16.out; have := HK4.out; first | omega | exact Nat.le_refl _⟩, ⟨by (with_reducible repeat (first | apply Kd.R_alloc | apply Kd.R_drewN | apply Kd.R_drew)); exact HO_12.out⟩, ⟨by repeat (first | (with_reducible first | exact HB.out | apply below_alloc | apply pw_below_drewN | apply below_drew1) | exact HB.out)⟩⟩
            ·rw [if_neg c22] at H
             have c22b0 : decide ((wrap64 (x13_2 + x16_4)) < a0) = false := decide_eq_false c22
             clear c22
             (first | rw [c22b0] | (simp only [i64_w, i32_w]; rw [c22b0]) | skip)
             have H' := Aside0.mk H
             clear H
             go_wp2
             repeat (go_quiet (fail); try go_wp2)
             go_meet
             case rel => exact ⟨_, (x16_4), (by first | rfl | (simp; done) | (simp [*]; done)), H', ⟨by have := HJ5.out; have := HK2.out; have := HJ16.out; have := HK4.out; first | omega | exact Nat.le_refl _⟩, ⟨by (with_reducible repeat (first | apply Kd.R_alloc | apply Kd.R_drewN | apply Kd.R_drew)); exact HO_12.out⟩, ⟨by repeat (first | (with_reducible first | exact HB.out | apply below_alloc | apply pw_below_drewN | apply below_drew1) | exact HB.out)⟩⟩
         case rest =>
          clear HC21
          try clear c1
          try clear c2
          try clear p2
          try clear c3
          try clear c4
          try clear c5
          try clear p6
          try clear c7
          try clear c7b0
          try clear c8
          try clear c8b0
          try clear c9
          try clear c9b0
          try clear c11
          try clear c16
          try clear c18
          try clear c18b0
          try clear c19
          try clear c19b0
          try clear c20
          try clear c22
          try clear c22b0
          try clear c24
          try clear c24b0
          try clear c24b1
          try clear c26
          try clear c26b0
          try clear c26b1
          try clear p2
          obtain ⟨kq, x16_20, rfl, HA, HJ20, HO_12, HB⟩ := hcut
          cases kq with
          | zero => exact absurd HA.out (by simp [tripartiteref06_Of.j4])
          | succ kj20 =>
           have H := HA.out
           clear HA
           simp only [tripartiteref06_Of.j4] at H
           by_cases c27 : x16_20 = 0
           ·rw [if_pos c27] at H
            have c27b0 : (x16_20 == 0) = true := beq_iff_eq.mpr c27
            have c27b1 : (x16_20 != 0) = false := bne_eq_false_iff_eq.mpr c27
            clear c27
            have HC28 := Aside0.mk H
            clear H
            go_upto_block 4 with (first | ((with_reducible refine gate_dst (N := 17) rfl ?_); refine box_event ?hg (N := 17) ?hd (cs := #[.bool false, .int .i64 0, .int .i64 0, .int .i64 0, .int .i64 0, .int .i64 0, .int .i64 0]) (t := 81) ?hr ?_; (case hd => rfl); (case hg => rfl); (case hr => first | (go_simp; done) | (go_simp; rfl)); intro gb105 hg w29 hbox hb; have n0_ := Aside0.mk (Kd.R_below (Kd.R_elderB (by (with_reducible repeat (first | apply Kd.R_alloc | apply Kd.R_drewN | apply Kd.R_drew)); exact HO_12.out) gb105 (Nat.le_of_eq hg.symm)) hb); have n1_ := Aside0.mk (below_step (by repeat (first | (with_reducible first | exact HB.out | apply below_alloc | apply pw_below_drewN | apply below_drew1) | exact HB.out)) hb); have n2_ := Aside0.mk (hbox); have n3_ := Aside0.mk ((by rw [hg]; exact (below_size (by repeat (first | (with_reducible first | exact HB.out | apply below_alloc | apply pw_below_drewN | apply below_drew1) | exact HB.out))) : w.heap.size ≤ gb105)); have n4_ := Aside0.mk ((by rw [hg]; exact (below_size (by repeat (first | (with_reducible first | exact HB.out | apply below_alloc | apply pw_below_drewN | apply below_drew1) | exact HB.out))) : w.heap.size ≤ gb105)); clear HO_12; clear HB; have HO_12 := n0_; have HB := n1_; have BK105 := n2_; have GW105 := n3_; have GE105 := n4_; clear n0_ n1_ n2_ n3_ n4_; clear hb hbox hg; have hcz30_0 : w29.cell? ⟨gb105, 0, none⟩ = some (.bool false) := (blk_cell BK105.out 0).trans rfl; have hcz30_1 : w29.cell? ⟨gb105, 1, none⟩ = some (.int .i64 0) := (blk_cell BK105.out 1).trans rfl; have hcz30_2 : w29.cell? ⟨gb105, 2, none⟩ = some (.int .i64 0) := (blk_cell BK105.out 2).trans rfl; have hcz30_3 : w29.cell? ⟨gb105, 3, none⟩ = some (.int .i64 0) := (blk_cell BK105.out 3).trans rfl; have hcz30_4 : w29.cell? ⟨gb105, 4, none⟩ = some (.int .i64 0) := (blk_cell BK105.out 4).trans rfl; have hcz30_5 : w29.cell? ⟨gb105, 5, none⟩ = some (.int .i64 0) := (blk_cell BK105.out 5).trans rfl; have hcz30_6 : w29.cell? ⟨gb105, 6, none⟩ = some (.int .i64 0) := (blk_cell BK105.out 6).trans rfl; have hfz30_0 := blk_frozen BK105.out 0; have hfz30_1 := blk_frozen BK105.out 1; have hfz30_2 := blk_frozen BK105.out 2; have hfz30_3 := blk_frozen BK105.out 3; have hfz30_4 := blk_frozen BK105.out 4; have hfz30_5 := blk_frozen BK105.out 5; have hfz30_6 := blk_frozen BK105.out 6))
            repeat (go_quiet (first | ((with_reducible refine gate_dst (N := 17) rfl ?_); refine box_event ?hg (N := 17) ?hd (cs := #[.bool false, .int .i64 0, .int .i64 0, .int .i64 0, .int .i64 0, .int .i64 0, .int .i64 0]) (t := 81) ?hr ?_; (case hd => rfl); (case hg => rfl); (case hr => first | (go_simp; done) | (go_simp; rfl)); intro gb105 hg w29 hbox hb; have n0_ := Aside0.mk (Kd.R_below (Kd.R_elderB (by (with_reducible repeat (first | apply Kd.R_alloc | apply Kd.R_drewN | apply Kd.R_drew)); exact HO_12.out) gb105 (Nat.le_of_eq hg.symm)) hb); have n1_ := Aside0.mk (below_step (by repeat (first | (with_reducible first | exact HB.out | apply below_alloc | apply pw_below_drewN | apply below_drew1) | exact HB.out)) hb); have n2_ := Aside0.mk (hbox); have n3_ := Aside0.mk ((by rw [hg]; exact (below_size (by repeat (first | (with_reducible first | exact HB.out | apply below_alloc | apply pw_below_drewN | apply below_drew1) | exact HB.out))) : w.heap.size ≤ gb105)); have n4_ := Aside0.mk ((by rw [hg]; exact (below_size (by repeat (first | (with_reducible first | exact HB.out | apply below_alloc | apply pw_below_drewN | apply below_drew1) | exact HB.out))) : w.heap.size ≤ gb105)); clear HO_12; clear HB; have HO_12 := n0_; have HB := n1_; have BK105 := n2_; have GW105 := n3_; have GE105 := n4_; clear n0_ n1_ n2_ n3_ n4_; clear hb hbox hg; have hcz30_0 : w29.cell? ⟨gb105, 0, none⟩ = some (.bool false) := (blk_cell BK105.out 0).trans rfl; have hcz30_1 : w29.cell? ⟨gb105, 1, none⟩ = some (.int .i64 0) := (blk_cell BK105.out 1).trans rfl; have hcz30_2 : w29.cell? ⟨gb105, 2, none⟩ = some (.int .i64 0) := (blk_cell BK105.out 2).trans rfl; have hcz30_3 : w29.cell? ⟨gb105, 3, none⟩ = some (.int .i64 0) := (blk_cell BK105.out 3).trans rfl; have hcz30_4 : w29.cell? ⟨gb105, 4, none⟩ = some (.int .i64 0) := (blk_cell BK105.out 4).trans rfl; have hcz30_5 : w29.cell? ⟨gb105, 5, none⟩ = some (.int .i64 0) := (blk_cell BK105.out 5).trans rfl; have hcz30_6 : w29.cell? ⟨gb105, 6, none⟩ = some (.int .i64 0) := (blk_cell BK105.out 6).trans rfl; have hfz30_0 := blk_frozen BK105.out 0; have hfz30_1 := blk_frozen BK105.out 1; have hfz30_2 := blk_frozen BK105.out 2; have hfz30_3 := blk_frozen BK105.out 3; have hfz30_4 := blk_frozen BK105.out 4; have hfz30_5 := blk_frozen BK105.out 5; have hfz30_6 := blk_frozen BK105.out 6)); go_upto_block 4 with (first | ((with_reducible refine gate_dst (N := 17) rfl ?_); refine box_event ?hg (N := 17) ?hd (cs := #[.bool false, .int .i64 0, .int .i64 0, .int .i64 0, .int .i64 0, .int .i64 0, .int .i64 0]) (t := 81) ?hr ?_; (case hd => rfl); (case hg => rfl); (case hr => first | (go_simp; done) | (go_simp; rfl)); intro gb105 hg w29 hbox hb; have n0_ := Aside0.mk (Kd.R_below (Kd.R_elderB (by (with_reducible repeat (first | apply Kd.R_alloc | apply Kd.R_drewN | apply Kd.R_drew)); exact HO_12.out) gb105 (Nat.le_of_eq hg.symm)) hb); have n1_ := Aside0.mk (below_step (by repeat (first | (with_reducible first | exact HB.out | apply below_alloc | apply pw_below_drewN | apply below_drew1) | exact HB.out)) hb); have n2_ := Aside0.mk (hbox); have n3_ := Aside0.mk ((by rw [hg]; exact (below_size (by repeat (first | (with_reducible first | exact HB.out | apply below_alloc | apply pw_below_drewN | apply below_drew1) | exact HB.out))) : w.heap.size ≤ gb105)); have n4_ := Aside0.mk ((by rw [hg]; exact (below_size (by repeat (first | (with_reducible first | exact HB.out | apply below_alloc | apply pw_below_drewN | apply below_drew1) | exact HB.out))) : w.heap.size ≤ gb105)); clear HO_12; clear HB; have HO_12 := n0_; have HB := n1_; have BK105 := n2_; have GW105 := n3_; have GE105 := n4_; clear n0_ n1_ n2_ n3_ n4_; clear hb hbox hg; have hcz30_0 : w29.cell? ⟨gb105, 0, none⟩ = some (.bool false) := (blk_cell BK105.out 0).trans rfl; have hcz30_1 : w29.cell? ⟨gb105, 1, none⟩ = some (.int .i64 0) := (blk_cell BK105.out 1).trans rfl; have hcz30_2 : w29.cell? ⟨gb105, 2, none⟩ = some (.int .i64 0) := (blk_cell BK105.out 2).trans rfl; have hcz30_3 : w29.cell? ⟨gb105, 3, none⟩ = some (.int .i64 0) := (blk_cell BK105.out 3).trans rfl; have hcz30_4 : w29.cell? ⟨gb105, 4, none⟩ = some (.int .i64 0) := (blk_cell BK105.out 4).trans rfl; have hcz30_5 : w29.cell? ⟨gb105, 5, none⟩ = some (.int .i64 0) := (blk_cell BK105.out 5).trans rfl; have hcz30_6 : w29.cell? ⟨gb105, 6, none⟩ = some (.int .i64 0) := (blk_cell BK105.out 6).trans rfl; have hfz30_0 := blk_frozen BK105.out 0; have hfz30_1 := blk_frozen BK105.out 1; have hfz30_2 := blk_frozen BK105.out 2; have hfz30_3 := blk_frozen BK105.out 3; have hfz30_4 := blk_frozen BK105.out 4; have hfz30_5 := blk_frozen BK105.out 5; have hfz30_6 := blk_frozen BK105.out 6)))
            (try simp only [Act.put, List.setIfInBounds_toArray, List.set_cons_zero, List.set_cons_succ])
            go_cut [18] (fun v18 wc => ∃ (kq : Nat) (x18_27 : Int), v18 = .int .i64 x18_27 ∧ Aside0 (tripartiteref06_Of.j6 kq a0 a1 a2 l3 l4 x12_2 x18_27 (decide (x16_20 > 0)) x13_2 (wrap64 (x13_2 + x16_20)) x14_2 (wrap64 (x14_2 + x16_20)) x15_2 (wrap64 (x15_2 + x16_20)) = some (r1, r2)) ∧ Aside0 (kq ≤ kj20) ∧ Aside0 (Kd.R k81 81 wc w.heap.size (fun k_ => k_ ≠ gb105) u12 x12_2) ∧ Aside0 (wc.heap[gb105]? = some (.cells #[.bool (decide (x16_20 > 0)), .int .i64 x13_2, .int .i64 (wrap64 (x13_2 + x16_20)), .int .i64 x14_2, .int .i64 (wrap64 (x14_2 + x16_20)), .int .i64 x15_2, .int .i64 (wrap64 (x15_2 + x16_20))] 81 (0, 0))) ∧ Aside0 (Below w.heap.size w wc))
            case first =>
             have H := HC28.out
             clear HC28
             have H' := Aside0.mk H
             clear H
             go_wp2
             repeat (go_quiet (fail); try go_wp2)
             go_loopg [18] kj20 (fun kq v18 w' => ∃ (x18_5 : Int), v18 = .int .i64 x18_5 ∧ Aside0 (tripartiteref06_Of.l2 kq a0 a1 a2 l3 l4 x12_2 x14_2 x15_2 x18_5 (decide (x16_20 > 0)) x13_2 (wrap64 (x13_2 + x16_20)) x14_2 (wrap64 (x14_2 + x16_20)) x15_2 (wrap64 (x15_2 + x16_20)) = some (r1, r2)) ∧ Aside0 (kq ≤ kj20) ∧ Aside0 (Kd.R k81 81 w' w.heap.size (fun k_ => k_ ≠ gb105) u12 x12_2) ∧ Aside0 (w'.heap[gb105]? = some (.cells #[.bool (decide (x16_20 > 0)), .int .i64 x13_2, .int .i64 (wrap64 (x13_2 + x16_20)), .int .i64 x14_2, .int .i64 (wrap64 (x14_2 + x16_20)), .int .i64 x15_2, .int .i64 (wrap64 (x15_2 + x16_20))] 81 (0, 0))) ∧ Aside0 (Below w.heap.size w w'))
             case atStart => exact ⟨(x13_2), (by first | rfl | (simp; done) | (simp [*]; done)), H', ⟨Nat.le_refl _⟩, ⟨by (with_reducible repeat (first | apply Kd.R_alloc | apply Kd.R_drewN | apply Kd.R_drew)); exact Kd.R_mono (Kd.R_far (p := ⟨gb105, 6, none⟩) (Kd.R_far (p := ⟨gb105, 5, none⟩) (Kd.R_far (p := ⟨gb105, 4, none⟩) (Kd.R_far (p := ⟨gb105, 3, none⟩) (Kd.R_far (p := ⟨gb105, 2, none⟩) (Kd.R_far (p := ⟨gb105, 1, none⟩) (Kd.R_far (p := ⟨gb105, 0, none⟩) (Kd.R_mono HO_12.out (fun k_ hk => (⟨hk, hk.2⟩ : _ ∧ k_ ≠ gb105))) (fun _ hk => hk.2) (.bool (decide (x16_20 > 0)))) (fun _ hk => hk.2) (.int .i64 x13_2)) (fun _ hk => hk.2) (.int .i64 (wrap64 (x13_2 + x16_20)))) (fun _ hk => hk.2) (.int .i64 x14_2)) (fun _ hk => hk.2) (.int .i64 (wrap64 (x14_2 + x16_20)))) (fun _ hk => hk.2) (.int .i64 x15_2)) (fun _ hk => hk.2) (.int .i64 (wrap64 (x15_2 + x16_20)))) (fun _ hk => hk.1.2)⟩, ⟨by (with_reducible repeat (first | refine blk_drewN ?_ _ | refine blk_drew ?_ | refine blk_alloc ?_ _)); refine blk_put (cs := #[.bool (decide (x16_20 > 0)), .int .i64 x13_2, .int .i64 (wrap64 (x13_2 + x16_20)), .int .i64 x14_2, .int .i64 (wrap64 (x14_2 + x16_20)), .int .i64 x15_2, .int .i64 0]) ?_ 6 _ rfl; (with_reducible repeat (first | refine blk_drewN ?_ _ | refine blk_drew ?_ | refine blk_alloc ?_ _)); refine blk_put (cs := #[.bool (decide (x16_20 > 0)), .int .i64 x13_2, .int .i64 (wrap64 (x13_2 + x16_20)), .int .i64 x14_2, .int .i64 (wrap64 (x14_2 + x16_20)), .int .i64 0, .int .i64 0]) ?_ 5 _ rfl; (with_reducible repeat (first | refine blk_drewN ?_ _ | refine blk_drew ?_ | refine blk_alloc ?_ _)); refine blk_put (cs := #[.bool (decide (x16_20 > 0)), .int .i64 x13_2, .int .i64 (wrap64 (x13_2 + x16_20)), .int .i64 x14_2, .int .i64 0, .int .i64 0, .int .i64 0]) ?_ 4 _ rfl; (with_reducible repeat (first | refine blk_drewN ?_ _ | refine blk_drew ?_ | refine blk_alloc ?_ _)); refine blk_put (cs := #[.bool (decide (x16_20 > 0)), .int .i64 x13_2, .int .i64 (wrap64 (x13_2 + x16_20)), .int .i64 0, .int .i64 0, .int .i64 0, .int .i64 0]) ?_ 3 _ rfl; (with_reducible repeat (first | refine blk_drewN ?_ _ | refine blk_drew ?_ | refine blk_alloc ?_ _)); refine blk_put (cs := #[.bool (decide (x16_20 > 0)), .int .i64 x13_2, .int .i64 0, .int .i64 0, .int .i64 0, .int .i64 0, .int .i64 0]) ?_ 2 _ rfl; (with_reducible repeat (first | refine blk_drewN ?_ _ | refine blk_drew ?_ | refine blk_alloc ?_ _)); refine blk_put (cs := #[.bool (decide (x16_20 > 0)), .int .i64 0, .int .i64 0, .int .i64 0, .int .i64 0, .int .i64 0, .int .i64 0]) ?_ 1 _ rfl; (with_reducible repeat (first | refine blk_drewN ?_ _ | refine blk_drew ?_ | refine blk_alloc ?_ _)); refine blk_put (cs := #[.bool false, .int .i64 0, .int .i64 0, .int .i64 0, .int .i64 0, .int .i64 0, .int .i64 0]) ?_ 0 _ rfl; (with_reducible repeat (first | refine blk_drewN ?_ _ | refine blk_drew ?_ | refine blk_alloc ?_ _)); exact BK105.out⟩, ⟨by repeat (first | (with_reducible first | exact HB.out | apply below_alloc | apply pw_below_drewN | apply below_drew1 | refine below_set ?_ GE105.out) | exact HB.out)⟩⟩
             case round =>
              clear H'
              try clear c1
              try clear c2
              try clear p2
              try clear c3
              try clear c4
              try clear c5
              try clear p6
              try clear c7
              try clear c7b0
              try clear c8
              try clear c8b0
              try clear c9
              try clear c9b0
              try clear c11
              try clear c16
              try clear c18
              try clear c18b0
              try clear c19
              try clear c19b0
              try clear c20
              try clear c22
              try clear c22b0
              try clear c24
              try clear c24b0
              try clear c24b1
              try clear c26
              try clear c26b0
              try clear c26b1
              try clear c27
              try clear c27b0
              try clear c27b1
              try clear hcz30_0
              try clear hcz30_1
              try clear hcz30_2
              try clear hcz30_3
              try clear hcz30_4
              try clear hcz30_5
              try clear hcz30_6
              try clear hfz30_0
              try clear hfz30_1
              try clear hfz30_2
              try clear hfz30_3
              try clear hfz30_4
              try clear hfz30_5
              try clear hfz30_6
              try clear p2
              try clear p6
              obtain ⟨x18_5, rfl, HA, HK5, HO_12, BK105, HB⟩ := hrel
              cases gk with
              | zero => exact absurd HA.out (by simp [tripartiteref06_Of.l2])
              | succ k5 =>
               have H := HA.out
               clear HA
               simp only [tripartiteref06_Of.l2] at H
               by_cases c31 : x18_5 < a0
               ·rw [if_pos c31] at H
                have c31b0 : decide (x18_5 < a0) = true := decide_eq_true c31
                clear c31
                (first | rw [c31b0] | (simp only [i64_w, i32_w]; rw [c31b0]) | skip)
                replace H := Option.bind_eq_some_iff.mp H
                obtain ⟨t106, A320, H⟩ := H
                replace H : (if t106 < x14_2 then (tripartiteref06_Of.l2 k5 a0 a1 a2 l3 l4 x12_2 x14_2 x15_2 (wrap64 (x18_5 + 1)) (decide (x16_20 > 0)) x13_2 (wrap64 (x13_2 + x16_20)) x14_2 (wrap64 (x14_2 + x16_20)) x15_2 (wrap64 (x15_2 + x16_20))) else ((tripartiteref06_at.f k5 l4 x18_5).bind fun t107 => (if t107 < x15_2 then (tripartiteref06_Of.l2 k5 a0 a1 a2 l3 l4 x12_2 x14_2 x15_2 (wrap64 (x18_5 + 1)) (decide (x16_20 > 0)) x13_2 (wrap64 (x13_2 + x16_20)) x14_2 (wrap64 (x14_2 + x16_20)) x15_2 (wrap64 (x15_2 + x16_20))) else (tripartiteref06_Of.j6 k5 a0 a1 a2 l3 l4 x12_2 x18_5 (decide (x16_20 > 0)) x13_2 (wrap64 (x13_2 + x16_20)) x14_2 (wrap64 (x14_2 + x16_20)) x15_2 (wrap64 (x15_2 + x16_20)))))) = some (r1, r2) := H
                have A32 := Aside0.mk A320
                clear A320
                by_cases c33 : t106 < x14_2
                ·rw [if_pos c33] at H
                 have c33b0 : decide (t106 < x14_2) = true := decide_eq_true c33
                 clear c33
                 have H' := Aside0.mk H
                 clear H
                 go_wp2_with (first | (go_at_call 95; (with_reducible refine (tripartiteref06_at.calls k5 _ _ l3 x18_5 t106 _ ?side1 ?side2 A32.out).mono ?_); (case side1 => repeat (first | exact (Kd.C_below HR3.out HB.out) | (with_reducible refine Kd.C_alloc ?_ _) | (with_reducible refine Kd.C_drewN ?_ _) | (with_reducible refine Kd.C_drew ?_))); (case side2 => exact HC3.out); rintro e w' ⟨rfl, ⟨nd, rfl⟩⟩; (try first | exact ⟨rfl, _, World.drewN_drewN _ _ _⟩ | exact ⟨rfl, _, Eq.trans (World.drewN_drewN _ _ _) (congrArg (World.drewN _) (Nat.add_assoc _ _ _))⟩)))
                 repeat (go_quiet (first | (go_at_call 95; (with_reducible refine (tripartiteref06_at.calls k5 _ _ l3 x18_5 t106 _ ?side1 ?side2 A32.out).mono ?_); (case side1 => repeat (first | exact (Kd.C_below HR3.out HB.out) | (with_reducible refine Kd.C_alloc ?_ _) | (with_reducible refine Kd.C_drewN ?_ _) | (with_reducible refine Kd.C_drew ?_))); (case side2 => exact HC3.out); rintro e w' ⟨rfl, ⟨nd, rfl⟩⟩; (try first | exact ⟨rfl, _, World.drewN_drewN _ _ _⟩ | exact ⟨rfl, _, Eq.trans (World.drewN_drewN _ _ _) (congrArg (World.drewN _) (Nat.add_assoc _ _ _))⟩))); try go_wp2_with (first | (go_at_call 95; (with_reducible refine (tripartiteref06_at.calls k5 _ _ l3 x18_5 t106 _ ?side1 ?side2 A32.out).mono ?_); (case side1 => repeat (first | exact (Kd.C_below HR3.out HB.out) | (with_reducible refine Kd.C_alloc ?_ _) | (with_reducible refine Kd.C_drewN ?_ _) | (with_reducible refine Kd.C_drew ?_))); (case side2 => exact HC3.out); rintro e w' ⟨rfl, ⟨nd, rfl⟩⟩; (try first | exact ⟨rfl, _, World.drewN_drewN _ _ _⟩ | exact ⟨rfl, _, Eq.trans (World.drewN_drewN _ _ _) (congrArg (World.drewN _) (Nat.add_assoc _ _ _))⟩))))
                 go_roundg k5
                 case measure => have := HJ5.out; have := HK2.out; have := HJ16.out; have := HJ20.out; have := HK5.out; omega
                 case rel => exact ⟨(wrap64 (x18_5 + 1)), (by first | rfl | (simp; done) | (simp [*]; done)), H', ⟨by have := HJ5.out; have := HK2.out; have := HJ16.out; have := HJ20.out; have := HK5.out; omega⟩, ⟨by (with_reducible repeat (first | apply Kd.R_alloc | apply Kd.R_drewN | apply Kd.R_drew)); exact HO_12.out⟩, ⟨by (with_reducible repeat (first | refine blk_drewN ?_ _ | refine blk_drew ?_ | refine blk_alloc ?_ _)); exact BK105.out⟩, ⟨by repeat (first | (with_reducible first | exact HB.out | apply below_alloc | apply pw_below_drewN | apply below_drew1 | refine below_set ?_ GE105.out) | exact HB.out)⟩⟩
                ·rw [if_neg c33] at H
                 have c33b0 : decide (t106 < x14_2) = false := decide_eq_false c33
                 clear c33
                 replace H := Option.bind_eq_some_iff.mp H
                 obtain ⟨t107, A340, H⟩ := H
                 replace H : (if t107 < x15_2 then (tripartiteref06_Of.l2 k5 a0 a1 a2 l3 l4 x12_2 x14_2 x15_2 (wrap64 (x18_5 + 1)) (decide (x16_20 > 0)) x13_2 (wrap64 (x13_2 + x16_20)) x14_2 (wrap64 (x14_2 + x16_20)) x15_2 (wrap64 (x15_2 + x16_20))) else (tripartiteref06_Of.j6 k5 a0 a1 a2 l3 l4 x12_2 x18_5 (decide (x16_20 > 0)) x13_2 (wrap64 (x13_2 + x16_20)) x14_2 (wrap64 (x14_2 + x16_20)) x15_2 (wrap64 (x15_2 + x16_20)))) = some (r1, r2) := H
                 have A34 := Aside0.mk A340
                 clear A340
                 by_cases c35 : t107 < x15_2
                 ·rw [if_pos c35] at H
                  have c35b0 : decide (t107 < x15_2) = true := decide_eq_true c35
                  clear c35
                  have H' := Aside0.mk H
                  clear H
                  go_wp2_with (first | (go_at_call 95; (with_reducible refine (tripartiteref06_at.calls k5 _ _ l3 x18_5 t106 _ ?side1 ?side2 A32.out).mono ?_); (case side1 => repeat (first | exact (Kd.C_below HR3.out HB.out) | (with_reducible refine Kd.C_alloc ?_ _) | (with_reducible refine Kd.C_drewN ?_ _) | (with_reducible refine Kd.C_drew ?_))); (case side2 => exact HC3.out); rintro e w' ⟨rfl, ⟨nd, rfl⟩⟩; (try first | exact ⟨rfl, _, World.drewN_drewN _ _ _⟩ | exact ⟨rfl, _, Eq.trans (World.drewN_drewN _ _ _) (congrArg (World.drewN _) (Nat.add_assoc _ _ _))⟩)) | (go_at_call 95; (with_reducible refine (tripartiteref06_at.calls k5 _ _ l4 x18_5 t107 _ ?side1 ?side2 A34.out).mono ?_); (case side1 => repeat (first | exact (Kd.C_below HR4.out (by repeat (first | (with_reducible first | exact HB.out | apply below_alloc | apply pw_below_drewN | apply below_drew1 | refine below_set ?_ GE105.out) | exact HB.out))) | (with_reducible refine Kd.C_alloc ?_ _) | (with_reducible refine Kd.C_drewN ?_ _) | (with_reducible refine Kd.C_drew ?_))); (case side2 => exact HC4.out); rintro e w' ⟨rfl, ⟨nd, rfl⟩⟩; (try first | exact ⟨rfl, _, World.drewN_drewN _ _ _⟩ | exact ⟨rfl, _, Eq.trans (World.drewN_drewN _ _ _) (congrArg (World.drewN _) (Nat.add_assoc _ _ _))⟩)))
                  repeat (go_quiet (first | (go_at_call 95; (with_reducible refine (tripartiteref06_at.calls k5 _ _ l3 x18_5 t106 _ ?side1 ?side2 A32.out).mono ?_); (case side1 => repeat (first | exact (Kd.C_below HR3.out HB.out) | (with_reducible refine Kd.C_alloc ?_ _) | (with_reducible refine Kd.C_drewN ?_ _) | (with_reducible refine Kd.C_drew ?_))); (case side2 => exact HC3.out); rintro e w' ⟨rfl, ⟨nd, rfl⟩⟩; (try first | exact ⟨rfl, _, World.drewN_drewN _ _ _⟩ | exact ⟨rfl, _, Eq.trans (World.drewN_drewN _ _ _) (congrArg (World.drewN _) (Nat.add_assoc _ _ _))⟩)) | (go_at_call 95; (with_reducible refine (tripartiteref06_at.calls k5 _ _ l4 x18_5 t107 _ ?side1 ?side2 A34.out).mono ?_); (case side1 => repeat (first | exact (Kd.C_below HR4.out (by repeat (first | (with_reducible first | exact HB.out | apply below_alloc | apply pw_below_drewN | apply below_drew1 | refine below_set ?_ GE105.out) | exact HB.out))) | (with_reducible refine Kd.C_alloc ?_ _) | (with_reducible refine Kd.C_drewN ?_ _) | (with_reducible refine Kd.C_drew ?_))); (case side2 => exact HC4.out); rintro e w' ⟨rfl, ⟨nd, rfl⟩⟩; (try first | exact ⟨rfl, _, World.drewN_drewN _ _ _⟩ | exact ⟨rfl, _, Eq.trans (World.drewN_drewN _ _ _) (congrArg (World.drewN _) (Nat.add_assoc _ _ _))⟩))); try go_wp2_with (first | (go_at_call 95; (with_reducible refine (tripartiteref06_at.calls k5 _ _ l3 x18_5 t106 _ ?side1 ?side2 A32.out).mono ?_); (case side1 => repeat (first | exact (Kd.C_below HR3.out HB.out) | (with_reducible refine Kd.C_alloc ?_ _) | (with_reducible refine Kd.C_drewN ?_ _) | (with_reducible refine Kd.C_drew ?_))); (case side2 => exact HC3.out); rintro e w' ⟨rfl, ⟨nd, rfl⟩⟩; (try first | exact ⟨rfl, _, World.drewN_drewN _ _ _⟩ | exact ⟨rfl, _, Eq.trans (World.drewN_drewN _ _ _) (congrArg (World.drewN _) (Nat.add_assoc _ _ _))⟩)) | (go_at_call 95; (with_reducible refine (tripartiteref06_at.calls k5 _ _ l4 x18_5 t107 _ ?side1 ?side2 A34.out).mono ?_); (case side1 => repeat (first | exact (Kd.C_below HR4.out (by repeat (first | (with_reducible first | exact HB.out | apply below_alloc | apply pw_below_drewN | apply below_drew1 | refine below_set ?_ GE105.out) | exact HB.out))) | (with_reducible refine Kd.C_alloc ?_ _) | (with_reducible refine Kd.C_drewN ?_ _) | (with_reducible refine Kd.C_drew ?_))); (case side2 => exact HC4.out); rintro e w' ⟨rfl, ⟨nd, rfl⟩⟩; (try first | exact ⟨rfl, _, World.drewN_drewN _ _ _⟩ | exact ⟨rfl, _, Eq.trans (World.drewN_drewN _ _ _) (congrArg (World.drewN _) (Nat.add_assoc _ _ _))⟩))))
                  go_roundg k5
                  case measure => have := HJ5.out; have := HK2.out; have := HJ16.out; have := HJ20.out; have := HK5.out; omega
                  case rel => exact ⟨(wrap64 (x18_5 + 1)), (by first | rfl | (simp; done) | (simp [*]; done)), H', ⟨by have := HJ5.out; have := HK2.out; have := HJ16.out; have := HJ20.out; have := HK5.out; omega⟩, ⟨by (with_reducible repeat (first | apply Kd.R_alloc | apply Kd.R_drewN | apply Kd.R_drew)); exact HO_12.out⟩, ⟨by (with_reducible repeat (first | refine blk_drewN ?_ _ | refine blk_drew ?_ | refine blk_alloc ?_ _)); exact BK105.out⟩, ⟨by repeat (first | (with_reducible first | exact HB.out | apply below_alloc | apply pw_below_drewN | apply below_drew1 | refine below_set ?_ GE105.out) | exact HB.out)⟩⟩
                 ·rw [if_neg c35] at H
                  have c35b0 : decide (t107 < x15_2) = false := decide_eq_false c35
                  clear c35
                  have H' := Aside0.mk H
                  clear H
                  go_wp2_with (first | (go_at_call 95; (with_reducible refine (tripartiteref06_at.calls k5 _ _ l3 x18_5 t106 _ ?side1 ?side2 A32.out).mono ?_); (case side1 => repeat (first | exact (Kd.C_below HR3.out HB.out) | (with_reducible refine Kd.C_alloc ?_ _) | (with_reducible refine Kd.C_drewN ?_ _) | (with_reducible refine Kd.C_drew ?_))); (case side2 => exact HC3.out); rintro e w' ⟨rfl, ⟨nd, rfl⟩⟩; (try first | exact ⟨rfl, _, World.drewN_drewN _ _ _⟩ | exact ⟨rfl, _, Eq.trans (World.drewN_drewN _ _ _) (congrArg (World.drewN _) (Nat.add_assoc _ _ _))⟩)) | (go_at_call 95; (with_reducible refine (tripartiteref06_at.calls k5 _ _ l4 x18_5 t107 _ ?side1 ?side2 A34.out).mono ?_); (case side1 => repeat (first | exact (Kd.C_below HR4.out (by repeat (first | (with_reducible first | exact HB.out | apply below_alloc | apply pw_below_drewN | apply below_drew1 | refine below_set ?_ GE105.out) | exact HB.out))) | (with_reducible refine Kd.C_alloc ?_ _) | (with_reducible refine Kd.C_drewN ?_ _) | (with_reducible refine Kd.C_drew ?_))); (case side2 => exact HC4.out); rintro e w' ⟨rfl, ⟨nd, rfl⟩⟩; (try first | exact ⟨rfl, _, World.drewN_drewN _ _ _⟩ | exact ⟨rfl, _, Eq.trans (World.drewN_drewN _ _ _) (congrArg (World.drewN _) (Nat.add_assoc _ _ _))⟩)))
                  repeat (go_quiet (first | (go_at_call 95; (with_reducible refine (tripartiteref06_at.calls k5 _ _ l3 x18_5 t106 _ ?side1 ?side2 A32.out).mono ?_); (case side1 => repeat (first | exact (Kd.C_below HR3.out HB.out) | (with_reducible refine Kd.C_alloc ?_ _) | (with_reducible refine Kd.C_drewN ?_ _) | (with_reducible refine Kd.C_drew ?_))); (case side2 => exact HC3.out); rintro e w' ⟨rfl, ⟨nd, rfl⟩⟩; (try first | exact ⟨rfl, _, World.drewN_drewN _ _ _⟩ | exact ⟨rfl, _, Eq.trans (World.drewN_drewN _ _ _) (congrArg (World.drewN _) (Nat.add_assoc _ _ _))⟩)) | (go_at_call 95; (with_reducible refine (tripartiteref06_at.calls k5 _ _ l4 x18_5 t107 _ ?side1 ?side2 A34.out).mono ?_); (case side1 => repeat (first | exact (Kd.C_below HR4.out (by repeat (first | (with_reducible first | exact HB.out | apply below_alloc | apply pw_below_drewN | apply below_drew1 | refine below_set ?_ GE105.out) | exact HB.out))) | (with_reducible refine Kd.C_alloc ?_ _) | (with_reducible refine Kd.C_drewN ?_ _) | (with_reducible refine Kd.C_drew ?_))); (case side2 => exact HC4.out); rintro e w' ⟨rfl, ⟨nd, rfl⟩⟩; (try first | exact ⟨rfl, _, World.drewN_drewN _ _ _⟩ | exact ⟨rfl, _, Eq.trans (World.drewN_drewN _ _ _) (congrArg (World.drewN _) (Nat.add_assoc _ _ _))⟩))); try go_wp2_with (first | (go_at_call 95; (with_reducible refine (tripartiteref06_at.calls k5 _ _ l3 x18_5 t106 _ ?side1 ?side2 A32.out).mono ?_); (case side1 => repeat (first | exact (Kd.C_below HR3.out HB.out) | (with_reducible refine Kd.C_alloc ?_ _) | (with_reducible refine Kd.C_drewN ?_ _) | (with_reducible refine Kd.C_drew ?_))); (case side2 => exact HC3.out); rintro e w' ⟨rfl, ⟨nd, rfl⟩⟩; (try first | exact ⟨rfl, _, World.drewN_drewN _ _ _⟩ | exact ⟨rfl, _, Eq.trans (World.drewN_drewN _ _ _) (congrArg (World.drewN _) (Nat.add_assoc _ _ _))⟩)) | (go_at_call 95; (with_reducible refine (tripartiteref06_at.calls k5 _ _ l4 x18_5 t107 _ ?side1 ?side2 A34.out).mono ?_); (case side1 => repeat (first | exact (Kd.C_below HR4.out (by repeat (first | (with_reducible first | exact HB.out | apply below_alloc | apply pw_below_drewN | apply below_drew1 | refine below_set ?_ GE105.out) | exact HB.out))) | (with_reducible refine Kd.C_alloc ?_ _) | (with_reducible refine Kd.C_drewN ?_ _) | (with_reducible refine Kd.C_drew ?_))); (case side2 => exact HC4.out); rintro e w' ⟨rfl, ⟨nd, rfl⟩⟩; (try first | exact ⟨rfl, _, World.drewN_drewN _ _ _⟩ | exact ⟨rfl, _, Eq.trans (World.drewN_drewN _ _ _) (congrArg (World.drewN _) (Nat.add_assoc _ _ _))⟩))))
                  go_meet
                  case rel => exact ⟨_, (x18_5), (by first | rfl | (simp; done) | (simp [*]; done)), H', ⟨by have := HJ5.out; have := HK2.out; have := HJ16.out; have := HJ20.out; have := HK5.out; first | omega | exact Nat.le_refl _⟩, ⟨by (with_reducible repeat (first | apply Kd.R_alloc | apply Kd.R_drewN | apply Kd.R_drew)); exact HO_12.out⟩, ⟨by (with_reducible repeat (first | refine blk_drewN ?_ _ | refine blk_drew ?_ | refine blk_alloc ?_ _)); exact BK105.out⟩, ⟨by repeat (first | (with_reducible first | exact HB.out | apply below_alloc | apply pw_below_drewN | apply below_drew1 | refine below_set ?_ GE105.out) | exact HB.out)⟩⟩
               ·rw [if_neg c31] at H
                have c31b0 : decide (x18_5 < a0) = false := decide_eq_false c31
                clear c31
                (first | rw [c31b0] | (simp only [i64_w, i32_w]; rw [c31b0]) | skip)
                have H' := Aside0.mk H
                clear H
                go_wp2
                repeat (go_quiet (fail); try go_wp2)
                go_meet
                case rel => exact ⟨_, (x18_5), (by first | rfl | (simp; done) | (simp [*]; done)), H', ⟨by have := HJ5.out; have := HK2.out; have := HJ16.out; have := HJ20.out; have := HK5.out; first | omega | exact Nat.le_refl _⟩, ⟨by (with_reducible repeat (first | apply Kd.R_alloc | apply Kd.R_drewN | apply Kd.R_drew)); exact HO_12.out⟩, ⟨by (with_reducible repeat (first | refine blk_drewN ?_ _ | refine blk_drew ?_ | refine blk_alloc ?_ _)); exact BK105.out⟩, ⟨by repeat (first | (with_reducible first | exact HB.out | apply below_alloc | apply pw_below_drewN | apply below_drew1 | refine below_set ?_ GE105.out) | exact HB.out)⟩⟩
            case rest =>
             clear HC28
             try clear c1
             try clear c2
             try clear p2
             try clear c3
             try clear c4
             try clear c5
             try clear p6
             try clear c7
             try clear c7b0
             try clear c8
             try clear c8b0
             try clear c9
             try clear c9b0
             try clear c11
             try clear c16
             try clear c18
             try clear c18b0
             try clear c19
             try clear c19b0
             try clear c20
             try clear c22
             try clear c22b0
             try clear c24
             try clear c24b0
             try clear c24b1
             try clear c26
             try clear c26b0
             try clear c26b1
             try clear c27
             try clear c27b0
             try clear c27b1
             try clear c31
             try clear c31b0
             try clear c33
             try clear c33b0
             try clear c35
             try clear c35b0
             try clear hcz30_0
             try clear hcz30_1
             try clear hcz30_2
             try clear hcz30_3
             try clear hcz30_4
             try clear hcz30_5
             try clear hcz30_6
             try clear hfz30_0
             try clear hfz30_1
             try clear hfz30_2
             try clear hfz30_3
             try clear hfz30_4
             try clear hfz30_5
             try clear hfz30_6
             try clear p2
             try clear p6
             obtain ⟨kq, x18_27, rfl, HA, HJ27, HO_12, BK105, HB⟩ := hcut
             cases kq with
             | zero => exact absurd HA.out (by simp [tripartiteref06_Of.j6])
             | succ kj27 =>
              have H := HA.out
              clear HA
              simp only [tripartiteref06_Of.j6] at H
              by_cases c36 : x18_27 < a0
              ·rw [if_pos c36] at H
               have c36b0 : decide (x18_27 < a0) = true := decide_eq_true c36
               clear c36
               replace H := Option.bind_eq_some_iff.mp H
               obtain ⟨t108, A370, H⟩ := H
               replace H : ((tripartiteref06_at.f kj27 l4 x18_27).bind fun t109 => (if x12_2.length < 2513169434916 then (tripartiteref06_Of.l0 kj27 a0 a1 a2 l3 l4 (x12_2 ++ [(⟨(decide (x16_20 > 0)), (⟨x13_2, x18_27⟩ : S79), (⟨x14_2, t108⟩ : S79), (⟨x15_2, t109⟩ : S79)⟩ : S81)]) x18_27 t108 t109) else (none))) = some (r1, r2) := H
               have A37 := Aside0.mk A370
               clear A370
               replace H := Option.bind_eq_some_iff.mp H
               obtain ⟨t109, A380, H⟩ := H
               replace H : (if x12_2.length < 2513169434916 then (tripartiteref06_Of.l0 kj27 a0 a1 a2 l3 l4 (x12_2 ++ [(⟨(decide (x16_20 > 0)), (⟨x13_2, x18_27⟩ : S79), (⟨x14_2, t108⟩ : S79), (⟨x15_2, t109⟩ : S79)⟩ : S81)]) x18_27 t108 t109) else (none)) = some (r1, r2) := H
               have A38 := Aside0.mk A380
               clear A380
               by_cases c39 : x12_2.length < 2513169434916
               ·rw [if_pos c39] at H
                have LMc39 := Aside0.mk c39
                clear c39
                obtain ⟨y110, hy110⟩ : ∃ y_ : List (S81), y_ = (x12_2 ++ [(⟨(decide (x16_20 > 0)), (⟨x13_2, x18_27⟩ : S79), (⟨x14_2, t108⟩ : S79), (⟨x15_2, t109⟩ : S79)⟩ : S81)]) := ⟨_, rfl⟩
                replace H : (tripartiteref06_Of.l0 kj27 a0 a1 a2 l3 l4 y110 x18_27 t108 t109) = some (r1, r2) := by first | (rw [hy110]; with_reducible exact H) | (have H2_ := (Option.bind_some _ _).symm.trans H; rw [hy110]; with_reducible exact H2_) | (have H2_ := (Option.bind_some _ _).symm.trans H; with_reducible exact H2_) | with_reducible exact H | (rw [hy110]; exact H) | exact H
                have Ny110 := Aside0.mk hy110
                clear hy110
                have H' := Aside0.mk H
                clear H
                have hcz40_0 : wc.cell? ⟨gb105, 0, none⟩ = some (.bool (decide (x16_20 > 0))) := (blk_cell BK105.out 0).trans rfl
                have hcz40_1 : wc.cell? ⟨gb105, 1, none⟩ = some (.int .i64 x13_2) := (blk_cell BK105.out 1).trans rfl
                have hcz40_2 : wc.cell? ⟨gb105, 2, none⟩ = some (.int .i64 (wrap64 (x13_2 + x16_20))) := (blk_cell BK105.out 2).trans rfl
                have hcz40_3 : wc.cell? ⟨gb105, 3, none⟩ = some (.int .i64 x14_2) := (blk_cell BK105.out 3).trans rfl
                have hcz40_4 : wc.cell? ⟨gb105, 4, none⟩ = some (.int .i64 (wrap64 (x14_2 + x16_20))) := (blk_cell BK105.out 4).trans rfl
                have hcz40_5 : wc.cell? ⟨gb105, 5, none⟩ = some (.int .i64 x15_2) := (blk_cell BK105.out 5).trans rfl
                have hcz40_6 : wc.cell? ⟨gb105, 6, none⟩ = some (.int .i64 (wrap64 (x15_2 + x16_20))) := (blk_cell BK105.out 6).trans rfl
                have hfz40_0 := blk_frozen BK105.out 0
                have hfz40_1 := blk_frozen BK105.out 1
                have hfz40_2 := blk_frozen BK105.out 2
                have hfz40_3 := blk_frozen BK105.out 3
                have hfz40_4 := blk_frozen BK105.out 4
                have hfz40_5 := blk_frozen BK105.out 5
                have hfz40_6 := blk_frozen BK105.out 6
                go_wp2_with fail
                have BK2 := Aside0.mk (blk_put (blk_put (blk_put BK105.out 2 (.int .i64 a0) rfl) 4 (.int .i64 a1) rfl) 6 (.int .i64 a2) rfl)
                have HB2 := Aside0.mk (below_set (j := 6) (v := .int .i64 a2) (below_set (j := 4) (v := .int .i64 a1) (below_set (j := 2) (v := .int .i64 a0) HB.out GE105.out) GE105.out) GE105.out)
                have HO2 := Aside0.mk (Kd.R_far (p := ⟨gb105, 6, none⟩) (Kd.R_far (p := ⟨gb105, 4, none⟩) (Kd.R_far (p := ⟨gb105, 2, none⟩) HO_12.out (fun _ hk => hk) (.int .i64 a0)) (fun _ hk => hk) (.int .i64 a1)) (fun _ hk => hk) (.int .i64 a2))
                generalize (((wc.setCell ⟨gb105, 2, none⟩ (.int .i64 a0)).setCell ⟨gb105, 4, none⟩ (.int .i64 a1)).setCell ⟨gb105, 6, none⟩ (.int .i64 a2)) = W2 at BK2 HB2 HO2 ⊢
                clear BK105 HB HO_12 hcz40_0 hfz40_0 hcz40_1 hfz40_1 hcz40_2 hfz40_2 hcz40_3 hfz40_3 hcz40_4 hfz40_4 hcz40_5 hfz40_5 hcz40_6 hfz40_6
                refine (tripartiteref06_at.calls kj27 A3 c3 l3 x18_27 t108 W2 (Kd.C_below HR3.out HB2.out) HC3.out A37.out).mono ?_
                rintro e w' ⟨rfl, ⟨nd, rfl⟩⟩
                have BK3 := Aside0.mk (blk_drewN BK2.out nd)
                have HB3 := Aside0.mk (pw_below_drewN HB2.out nd)
                have HO3 := Aside0.mk (Kd.R_drewN HO2.out nd)
                generalize W2.drewN nd = W3 at BK3 HB3 HO3 ⊢
                clear BK2 HB2 HO2
                go_wp2_with fail
                refine (tripartiteref06_at.calls kj27 A4 c4 l4 x18_27 t109 W3 (Kd.C_below HR4.out HB3.out) HC4.out A38.out).mono ?_
                rintro e w' ⟨rfl, ⟨nd, rfl⟩⟩
                have BK4 := Aside0.mk (blk_drewN BK3.out nd)
                have HB4 := Aside0.mk (pw_below_drewN HB3.out nd)
                have HO4 := Aside0.mk (Kd.R_drewN HO3.out nd)
                generalize W3.drewN nd = W4 at BK4 HB4 HO4 ⊢
                clear BK3 HB3 HO3
                have hc0 : W4.cell? ⟨gb105, 0, none⟩ = some (.bool (decide (x16_20 > 0))) := (blk_cell BK4.out 0).trans rfl
                have hc1 : W4.cell? ⟨gb105, 1, none⟩ = some (.int .i64 x13_2) := (blk_cell BK4.out 1).trans rfl
                have hc2 : W4.cell? ⟨gb105, 2, none⟩ = some (.int .i64 a0) := (blk_cell BK4.out 2).trans rfl
                have hc3 : W4.cell? ⟨gb105, 3, none⟩ = some (.int .i64 x14_2) := (blk_cell BK4.out 3).trans rfl
                have hc4 : W4.cell? ⟨gb105, 4, none⟩ = some (.int .i64 a1) := (blk_cell BK4.out 4).trans rfl
                have hc5 : W4.cell? ⟨gb105, 5, none⟩ = some (.int .i64 x15_2) := (blk_cell BK4.out 5).trans rfl
                have hc6 : W4.cell? ⟨gb105, 6, none⟩ = some (.int .i64 a2) := (blk_cell BK4.out 6).trans rfl
                have hf0 := blk_frozen BK4.out 0
                have hf1 := blk_frozen BK4.out 1
                have hf2 := blk_frozen BK4.out 2
                have hf3 := blk_frozen BK4.out 3
                have hf4 := blk_frozen BK4.out 4
                have hf5 := blk_frozen BK4.out 5
                have hf6 := blk_frozen BK4.out 6
                have BK5 := Aside0.mk (blk_put (blk_put (blk_put BK4.out 2 (.int .i64 x18_27) rfl) 4 (.int .i64 t108) rfl) 6 (.int .i64 t109) rfl)
                have HB5 := Aside0.mk (below_set (j := 6) (v := .int .i64 t109) (below_set (j := 4) (v := .int .i64 t108) (below_set (j := 2) (v := .int .i64 x18_27) HB4.out GE105.out) GE105.out) GE105.out)
                have HO5 := Aside0.mk (Kd.R_far (p := ⟨gb105, 6, none⟩) (Kd.R_far (p := ⟨gb105, 4, none⟩) (Kd.R_far (p := ⟨gb105, 2, none⟩) HO4.out (fun _ hk => hk) (.int .i64 x18_27)) (fun _ hk => hk) (.int .i64 t108)) (fun _ hk => hk) (.int .i64 t109))
                go_wp2_with (first | ((with_reducible refine gate_builtin (b := .append) (xs := #[.tmp 150, .tmp 152]) rfl ?_); at_builtin; refine Kd.R_append k81 (w0 := w) w.heap.size rfl (.tmp 150) (.tmp 152) 70 81 (.agg #[(.bool false), (.int .i64 0), (.int .i64 0), (.int .i64 0), (.int .i64 0), (.int .i64 0), (.int .i64 0)]) 56 rfl Try.underlying70 info81 rfl (by decide) (by omega) u12 x12_2 (⟨(decide (x16_20 > 0)), (⟨x13_2, x18_27⟩ : S79), (⟨x14_2, t108⟩ : S79), (⟨x15_2, t109⟩ : S79)⟩ : S81) [.bool (decide (x16_20 > 0)), .int .i64 x13_2, .int .i64 x18_27, .int .i64 x14_2, .int .i64 t108, .int .i64 x15_2, .int .i64 t109] (fun k_ => k_ ≠ gb105) (fun _ => False) rfl (by first | (go_simp; done) | (go_simp; rfl)) ?aP (fun _ hk => hk.elim) ?aF ?aO ?aB ?aS ?aL ?_; (case aP => exact k81_mkM _ _ _ (⟨(decide (x16_20 > 0)), (⟨x13_2, x18_27⟩ : S79), (⟨x14_2, t108⟩ : S79), (⟨x15_2, t109⟩ : S79)⟩ : S81)); (case aB => exact HB5.out); (case aF => exact (fun k_ hk => Kd.freshB (g := gb105) (o := .cells #[.bool (decide (x16_20 > 0)), .int .i64 x13_2, .int .i64 x18_27, .int .i64 x14_2, .int .i64 t108, .int .i64 x15_2, .int .i64 t109] 81 (0, 0)) BK5.out k_ hk)); (case aO => exact HO5.out); (case aS => exact below_size HB5.out); (case aL => have := LMc39.out; omega); intro v6 w6 ho hb hg hat; rw [← Ny110.out] at ho; have BK6 := Aside0.mk (blk_grown (g := gb105) (o := .cells #[.bool (decide (x16_20 > 0)), .int .i64 x13_2, .int .i64 x18_27, .int .i64 x14_2, .int .i64 t108, .int .i64 x15_2, .int .i64 t109] 81 (0, 0)) BK5.out hg (Kd.R_away HO5.out (fun _ hk => hk))); have HB6 := Aside0.mk hb; have HO6 := Aside0.mk ho; clear ho hb hg hat; have gc0 : w6.cell? ⟨gb105, 0, none⟩ = some (.bool (decide (x16_20 > 0))) := (blk_cell BK6.out 0).trans rfl; have gc1 : w6.cell? ⟨gb105, 1, none⟩ = some (.int .i64 x13_2) := (blk_cell BK6.out 1).trans rfl; have gc2 : w6.cell? ⟨gb105, 2, none⟩ = some (.int .i64 x18_27) := (blk_cell BK6.out 2).trans rfl; have gc3 : w6.cell? ⟨gb105, 3, none⟩ = some (.int .i64 x14_2) := (blk_cell BK6.out 3).trans rfl; have gc4 : w6.cell? ⟨gb105, 4, none⟩ = some (.int .i64 t108) := (blk_cell BK6.out 4).trans rfl; have gc5 : w6.cell? ⟨gb105, 5, none⟩ = some (.int .i64 x15_2) := (blk_cell BK6.out 5).trans rfl; have gc6 : w6.cell? ⟨gb105, 6, none⟩ = some (.int .i64 t109) := (blk_cell BK6.out 6).trans rfl; have gf0 := blk_frozen BK6.out 0; have gf1 := blk_frozen BK6.out 1; have gf2 := blk_frozen BK6.out 2; have gf3 := blk_frozen BK6.out 3; have gf4 := blk_frozen BK6.out 4; have gf5 := blk_frozen BK6.out 5; have gf6 := blk_frozen BK6.out 6))
                go_quiet (fail)
                go_wp2_with fail
                go_roundg kj27
                case measure => have := HJ5.out; have := HK2.out; have := HJ16.out; have := HJ20.out; have := HJ27.out; omega
                case rel => exact ⟨(y110), (x18_27), (t108), (t109), (by first | rfl | (simp; done) | (simp [*]; done)), (by first | rfl | (simp; done) | (simp [*]; done)), (by first | rfl | (simp; done) | (simp [*]; done)), H', ⟨by have := HJ5.out; have := HK2.out; have := HJ16.out; have := HJ20.out; have := HJ27.out; omega⟩, ⟨by (with_reducible repeat (first | apply Kd.R_alloc | apply Kd.R_drewN | apply Kd.R_drew)); exact Kd.R_mono HO6.out (fun _ hk => trivial)⟩, ⟨by repeat (first | (with_reducible first | exact HB6.out | apply below_alloc | apply pw_below_drewN | apply below_drew1 | refine below_set ?_ GE105.out) | exact HB6.out)⟩⟩
               ·rw [if_neg c39] at H
                exact absurd H (by simp)
              ·rw [if_neg c36] at H
               have c36b0 : decide (x18_27 < a0) = false := decide_eq_false c36
               clear c36
               by_cases c43 : x12_2.length < 2513169434916
               ·rw [if_pos c43] at H
                have LMc43 := Aside0.mk c43
                clear c43
                obtain ⟨y113, hy113⟩ : ∃ y_ : List (S81), y_ = (x12_2 ++ [(⟨(decide (x16_20 > 0)), (⟨x13_2, a0⟩ : S79), (⟨x14_2, a1⟩ : S79), (⟨x15_2, a2⟩ : S79)⟩ : S81)]) := ⟨_, rfl⟩
                replace H : (tripartiteref06_Of.l0 kj27 a0 a1 a2 l3 l4 y113 a0 a1 a2) = some (r1, r2) := by first | (rw [hy113]; with_reducible exact H) | (have H2_ := (Option.bind_some _ _).symm.trans H; rw [hy113]; with_reducible exact H2_) | (have H2_ := (Option.bind_some _ _).symm.trans H; with_reducible exact H2_) | with_reducible exact H | (rw [hy113]; exact H) | exact H
                have Ny113 := Aside0.mk hy113
                clear hy113
                have H' := Aside0.mk H
                clear H
                have hcz44_0 : wc.cell? ⟨gb105, 0, none⟩ = some (.bool (decide (x16_20 > 0))) := (blk_cell BK105.out 0).trans rfl
                have hcz44_1 : wc.cell? ⟨gb105, 1, none⟩ = some (.int .i64 x13_2) := (blk_cell BK105.out 1).trans rfl
                have hcz44_2 : wc.cell? ⟨gb105, 2, none⟩ = some (.int .i64 (wrap64 (x13_2 + x16_20))) := (blk_cell BK105.out 2).trans rfl
                have hcz44_3 : wc.cell? ⟨gb105, 3, none⟩ = some (.int .i64 x14_2) := (blk_cell BK105.out 3).trans rfl
                have hcz44_4 : wc.cell? ⟨gb105, 4, none⟩ = some (.int .i64 (wrap64 (x14_2 + x16_20))) := (blk_cell BK105.out 4).trans rfl
                have hcz44_5 : wc.cell? ⟨gb105, 5, none⟩ = some (.int .i64 x15_2) := (blk_cell BK105.out 5).trans rfl
                have hcz44_6 : wc.cell? ⟨gb105, 6, none⟩ = some (.int .i64 (wrap64 (x15_2 + x16_20))) := (blk_cell BK105.out 6).trans rfl
                have hfz44_0 := blk_frozen BK105.out 0
                have hfz44_1 := blk_frozen BK105.out 1
                have hfz44_2 := blk_frozen BK105.out 2
                have hfz44_3 := blk_frozen BK105.out 3
                have hfz44_4 := blk_frozen BK105.out 4
                have hfz44_5 := blk_frozen BK105.out 5
                have hfz44_6 := blk_frozen BK105.out 6
                have BK5 := Aside0.mk (blk_put (blk_put (blk_put BK105.out 2 (.int .i64 a0) rfl) 4 (.int .i64 a1) rfl) 6 (.int .i64 a2) rfl)
                have HB5 := Aside0.mk (below_set (j := 6) (v := .int .i64 a2) (below_set (j := 4) (v := .int .i64 a1) (below_set (j := 2) (v := .int .i64 a0) HB.out GE105.out) GE105.out) GE105.out)
                have HO5 := Aside0.mk (Kd.R_far (p := ⟨gb105, 6, none⟩) (Kd.R_far (p := ⟨gb105, 4, none⟩) (Kd.R_far (p := ⟨gb105, 2, none⟩) HO_12.out (fun _ hk => hk) (.int .i64 a0)) (fun _ hk => hk) (.int .i64 a1)) (fun _ hk => hk) (.int .i64 a2))
                go_wp2_with (first | ((with_reducible refine gate_builtin (b := .append) (xs := #[.tmp 150, .tmp 152]) rfl ?_); at_builtin; refine Kd.R_append k81 (w0 := w) w.heap.size rfl (.tmp 150) (.tmp 152) 70 81 (.agg #[(.bool false), (.int .i64 0), (.int .i64 0), (.int .i64 0), (.int .i64 0), (.int .i64 0), (.int .i64 0)]) 56 rfl Try.underlying70 info81 rfl (by decide) (by omega) u12 x12_2 (⟨(decide (x16_20 > 0)), (⟨x13_2, a0⟩ : S79), (⟨x14_2, a1⟩ : S79), (⟨x15_2, a2⟩ : S79)⟩ : S81) [.bool (decide (x16_20 > 0)), .int .i64 x13_2, .int .i64 a0, .int .i64 x14_2, .int .i64 a1, .int .i64 x15_2, .int .i64 a2] (fun k_ => k_ ≠ gb105) (fun _ => False) rfl (by first | (go_simp; done) | (go_simp; rfl)) ?aP (fun _ hk => hk.elim) ?aF ?aO ?aB ?aS ?aL ?_; (case aP => exact k81_mkM _ _ _ (⟨(decide (x16_20 > 0)), (⟨x13_2, a0⟩ : S79), (⟨x14_2, a1⟩ : S79), (⟨x15_2, a2⟩ : S79)⟩ : S81)); (case aB => exact HB5.out); (case aF => exact (fun k_ hk => Kd.freshB (g := gb105) (o := .cells #[.bool (decide (x16_20 > 0)), .int .i64 x13_2, .int .i64 a0, .int .i64 x14_2, .int .i64 a1, .int .i64 x15_2, .int .i64 a2] 81 (0, 0)) BK5.out k_ hk)); (case aO => exact HO5.out); (case aS => exact below_size HB5.out); (case aL => have := LMc43.out; omega); intro v6 w6 ho hb hg hat; rw [← Ny113.out] at ho; have BK6 := Aside0.mk (blk_grown (g := gb105) (o := .cells #[.bool (decide (x16_20 > 0)), .int .i64 x13_2, .int .i64 a0, .int .i64 x14_2, .int .i64 a1, .int .i64 x15_2, .int .i64 a2] 81 (0, 0)) BK5.out hg (Kd.R_away HO5.out (fun _ hk => hk))); have HB6 := Aside0.mk hb; have HO6 := Aside0.mk ho; clear ho hb hg hat; have gc0 : w6.cell? ⟨gb105, 0, none⟩ = some (.bool (decide (x16_20 > 0))) := (blk_cell BK6.out 0).trans rfl; have gc1 : w6.cell? ⟨gb105, 1, none⟩ = some (.int .i64 x13_2) := (blk_cell BK6.out 1).trans rfl; have gc2 : w6.cell? ⟨gb105, 2, none⟩ = some (.int .i64 a0) := (blk_cell BK6.out 2).trans rfl; have gc3 : w6.cell? ⟨gb105, 3, none⟩ = some (.int .i64 x14_2) := (blk_cell BK6.out 3).trans rfl; have gc4 : w6.cell? ⟨gb105, 4, none⟩ = some (.int .i64 a1) := (blk_cell BK6.out 4).trans rfl; have gc5 : w6.cell? ⟨gb105, 5, none⟩ = some (.int .i64 x15_2) := (blk_cell BK6.out 5).trans rfl; have gc6 : w6.cell? ⟨gb105, 6, none⟩ = some (.int .i64 a2) := (blk_cell BK6.out 6).trans rfl; have gf0 := blk_frozen BK6.out 0; have gf1 := blk_frozen BK6.out 1; have gf2 := blk_frozen BK6.out 2; have gf3 := blk_frozen BK6.out 3; have gf4 := blk_frozen BK6.out 4; have gf5 := blk_frozen BK6.out 5; have gf6 := blk_frozen BK6.out 6))
                go_quiet (fail)
                go_wp2_with fail
                go_roundg kj27
                case measure => have := HJ5.out; have := HK2.out; have := HJ16.out; have := HJ20.out; have := HJ27.out; omega
                case rel => exact ⟨(y113), (a0), (a1), (a2), (by first | rfl | (simp; done) | (simp [*]; done)), (by first | rfl | (simp; done) | (simp [*]; done)), (by first | rfl | (simp; done) | (simp [*]; done)), H', ⟨by have := HJ5.out; have := HK2.out; have := HJ16.out; have := HJ20.out; have := HJ27.out; omega⟩, ⟨by (with_reducible repeat (first | apply Kd.R_alloc | apply Kd.R_drewN | apply Kd.R_drew)); exact Kd.R_mono HO6.out (fun _ hk => trivial)⟩, ⟨by repeat (first | (with_reducible first | exact HB6.out | apply below_alloc | apply pw_below_drewN | apply below_drew1 | refine below_set ?_ GE105.out) | exact HB6.out)⟩⟩
               ·rw [if_neg c43] at H
                exact absurd H (by simp)
           ·rw [if_neg c27] at H
            have c27b0 : (x16_20 == 0) = false := beq_eq_false_iff_ne.mpr c27
            have c27b1 : (x16_20 != 0) = true := bne_iff_ne.mpr c27
            by_cases c47 : x12_2.length < 2513169434916
            ·rw [if_pos c47] at H
             have LMc47 := Aside0.mk c47
             clear c47
             obtain ⟨y116, hy116⟩ : ∃ y_ : List (S81), y_ = (x12_2 ++ [(⟨decide (x16_20 > 0), (⟨x13_2, wrap64 (x13_2 + x16_20)⟩ : S79), (⟨x14_2, wrap64 (x14_2 + x16_20)⟩ : S79), (⟨x15_2, wrap64 (x15_2 + x16_20)⟩ : S79)⟩ : S81)]) := ⟨_, rfl⟩
             replace H : (tripartiteref06_Of.l0 kj20 a0 a1 a2 l3 l4 y116 (wrap64 (x13_2 + x16_20)) (wrap64 (x14_2 + x16_20)) (wrap64 (x15_2 + x16_20))) = some (r1, r2) := by first | (rw [hy116]; with_reducible exact H) | (have H2_ := (Option.bind_some _ _).symm.trans H; rw [hy116]; with_reducible exact H2_) | (have H2_ := (Option.bind_some _ _).symm.trans H; with_reducible exact H2_) | with_reducible exact H | (rw [hy116]; exact H) | exact H
             have Ny116 := Aside0.mk hy116
             clear hy116
             have H' := Aside0.mk H
             clear H
             go_wp2_with (first | ((with_reducible refine gate_dst (N := 17) rfl ?_); refine box_event ?hg (N := 17) ?hd (cs := #[.bool false, .int .i64 0, .int .i64 0, .int .i64 0, .int .i64 0, .int .i64 0, .int .i64 0]) (t := 81) ?hr ?_; (case hd => rfl); (case hg => rfl); (case hr => first | (go_simp; done) | (go_simp; rfl)); intro gb105 hg w48 hbox hb; have n0_ := Aside0.mk (Kd.R_below (Kd.R_elderB (by (with_reducible repeat (first | apply Kd.R_alloc | apply Kd.R_drewN | apply Kd.R_drew)); exact HO_12.out) gb105 (Nat.le_of_eq hg.symm)) hb); have n1_ := Aside0.mk (below_step (by repeat (first | (with_reducible first | exact HB.out | apply below_alloc | apply pw_below_drewN | apply below_drew1) | exact HB.out)) hb); have n2_ := Aside0.mk (hbox); have n3_ := Aside0.mk ((by rw [hg]; exact (below_size (by repeat (first | (with_reducible first | exact HB.out | apply below_alloc | apply pw_below_drewN | apply below_drew1) | exact HB.out))) : w.heap.size ≤ gb105)); have n4_ := Aside0.mk ((by rw [hg]; exact (below_size (by repeat (first | (with_reducible first | exact HB.out | apply below_alloc | apply pw_below_drewN | apply below_drew1) | exact HB.out))) : w.heap.size ≤ gb105)); clear HO_12; clear HB; have HO_12 := n0_; have HB := n1_; have BK105 := n2_; have GW105 := n3_; have GE105 := n4_; clear n0_ n1_ n2_ n3_ n4_; clear hb hbox hg; have hcz49_0 : w48.cell? ⟨gb105, 0, none⟩ = some (.bool false) := (blk_cell BK105.out 0).trans rfl; have hcz49_1 : w48.cell? ⟨gb105, 1, none⟩ = some (.int .i64 0) := (blk_cell BK105.out 1).trans rfl; have hcz49_2 : w48.cell? ⟨gb105, 2, none⟩ = some (.int .i64 0) := (blk_cell BK105.out 2).trans rfl; have hcz49_3 : w48.cell? ⟨gb105, 3, none⟩ = some (.int .i64 0) := (blk_cell BK105.out 3).trans rfl; have hcz49_4 : w48.cell? ⟨gb105, 4, none⟩ = some (.int .i64 0) := (blk_cell BK105.out 4).trans rfl; have hcz49_5 : w48.cell? ⟨gb105, 5, none⟩ = some (.int .i64 0) := (blk_cell BK105.out 5).trans rfl; have hcz49_6 : w48.cell? ⟨gb105, 6, none⟩ = some (.int .i64 0) := (blk_cell BK105.out 6).trans rfl; have hfz49_0 := blk_frozen BK105.out 0; have hfz49_1 := blk_frozen BK105.out 1; have hfz49_2 := blk_frozen BK105.out 2; have hfz49_3 := blk_frozen BK105.out 3; have hfz49_4 := blk_frozen BK105.out 4; have hfz49_5 := blk_frozen BK105.out 5; have hfz49_6 := blk_frozen BK105.out 6) | ((with_reducible refine gate_builtin (b := .append) (xs := #[.tmp 150, .tmp 152]) rfl ?_); at_builtin; refine Kd.R_append k81 (w0 := w) w.heap.size rfl (.tmp 150) (.tmp 152) 70 81 (.agg #[(.bool false), (.int .i64 0), (.int .i64 0), (.int .i64 0), (.int .i64 0), (.int .i64 0), (.int .i64 0)]) 56 rfl Try.underlying70 info81 rfl (by decide) (by omega) u12 x12_2 (⟨decide (x16_20 > 0), (⟨x13_2, wrap64 (x13_2 + x16_20)⟩ : S79), (⟨x14_2, wrap64 (x14_2 + x16_20)⟩ : S79), (⟨x15_2, wrap64 (x15_2 + x16_20)⟩ : S79)⟩ : S81) [.bool (decide (x16_20 > 0)), .int .i64 x13_2, .int .i64 (wrap64 (x13_2 + x16_20)), .int .i64 x14_2, .int .i64 (wrap64 (x14_2 + x16_20)), .int .i64 x15_2, .int .i64 (wrap64 (x15_2 + x16_20))] (fun k_ => k_ ≠ gb105) (fun _ => False) rfl (by first | (go_simp; done) | (go_simp; rfl)) ?aP (fun _ hk => hk.elim) ?aF ?aO ?aB ?aS ?aL ?_; (case aP => exact k81_mkM _ _ _ (⟨decide (x16_20 > 0), (⟨x13_2, wrap64 (x13_2 + x16_20)⟩ : S79), (⟨x14_2, wrap64 (x14_2 + x16_20)⟩ : S79), (⟨x15_2, wrap64 (x15_2 + x16_20)⟩ : S79)⟩ : S81)); (case aB => exact (by repeat (first | (with_reducible first | exact HB.out | apply below_alloc | apply pw_below_drewN | apply below_drew1 | refine below_set ?_ GE105.out) | exact HB.out))); (case aF => exact (fun k_ hk => Kd.freshB (g := gb105) (o := .cells #[.bool (decide (x16_20 > 0)), .int .i64 x13_2, .int .i64 (wrap64 (x13_2 + x16_20)), .int .i64 x14_2, .int .i64 (wrap64 (x14_2 + x16_20)), .int .i64 x15_2, .int .i64 (wrap64 (x15_2 + x16_20))] 81 (0, 0)) (by (with_reducible repeat (first | refine blk_drewN ?_ _ | refine blk_drew ?_ | refine blk_alloc ?_ _)); refine blk_put (cs := #[.bool (decide (x16_20 > 0)), .int .i64 x13_2, .int .i64 (wrap64 (x13_2 + x16_20)), .int .i64 x14_2, .int .i64 (wrap64 (x14_2 + x16_20)), .int .i64 x15_2, .int .i64 0]) ?_ 6 _ rfl; (with_reducible repeat (first | refine blk_drewN ?_ _ | refine blk_drew ?_ | refine blk_alloc ?_ _)); refine blk_put (cs := #[.bool (decide (x16_20 > 0)), .int .i64 x13_2, .int .i64 (wrap64 (x13_2 + x16_20)), .int .i64 x14_2, .int .i64 (wrap64 (x14_2 + x16_20)), .int .i64 0, .int .i64 0]) ?_ 5 _ rfl; (with_reducible repeat (first | refine blk_drewN ?_ _ | refine blk_drew ?_ | refine blk_alloc ?_ _)); refine blk_put (cs := #[.bool (decide (x16_20 > 0)), .int .i64 x13_2, .int .i64 (wrap64 (x13_2 + x16_20)), .int .i64 x14_2, .int .i64 0, .int .i64 0, .int .i64 0]) ?_ 4 _ rfl; (with_reducible repeat (first | refine blk_drewN ?_ _ | refine blk_drew ?_ | refine blk_alloc ?_ _)); refine blk_put (cs := #[.bool (decide (x16_20 > 0)), .int .i64 x13_2, .int .i64 (wrap64 (x13_2 + x16_20)), .int .i64 0, .int .i64 0, .int .i64 0, .int .i64 0]) ?_ 3 _ rfl; (with_reducible repeat (first | refine blk_drewN ?_ _ | refine blk_drew ?_ | refine blk_alloc ?_ _)); refine blk_put (cs := #[.bool (decide (x16_20 > 0)), .int .i64 x13_2, .int .i64 0, .int .i64 0, .int .i64 0, .int .i64 0, .int .i64 0]) ?_ 2 _ rfl; (with_reducible repeat (first | refine blk_drewN ?_ _ | refine blk_drew ?_ | refine blk_alloc ?_ _)); refine blk_put (cs := #[.bool (decide (x16_20 > 0)), .int .i64 0, .int .i64 0, .int .i64 0, .int .i64 0, .int .i64 0, .int .i64 0]) ?_ 1 _ rfl; (with_reducible repeat (first | refine blk_drewN ?_ _ | refine blk_drew ?_ | refine blk_alloc ?_ _)); refine blk_put (cs := #[.bool false, .int .i64 0, .int .i64 0, .int .i64 0, .int .i64 0, .int .i64 0, .int .i64 0]) ?_ 0 _ rfl; (with_reducible repeat (first | refine blk_drewN ?_ _ | refine blk_drew ?_ | refine blk_alloc ?_ _)); exact BK105.out) k_ hk)); (case aO => exact (by (with_reducible repeat (first | apply Kd.R_alloc | apply Kd.R_drewN | apply Kd.R_drew)); exact Kd.R_mono (Kd.R_far (p := ⟨gb105, 6, none⟩) (Kd.R_far (p := ⟨gb105, 5, none⟩) (Kd.R_far (p := ⟨gb105, 4, none⟩) (Kd.R_far (p := ⟨gb105, 3, none⟩) (Kd.R_far (p := ⟨gb105, 2, none⟩) (Kd.R_far (p := ⟨gb105, 1, none⟩) (Kd.R_far (p := ⟨gb105, 0, none⟩) (Kd.R_mono HO_12.out (fun k_ hk => (⟨hk, hk.2⟩ : _ ∧ k_ ≠ gb105))) (fun _ hk => hk.2) (.bool (decide (x16_20 > 0)))) (fun _ hk => hk.2) (.int .i64 x13_2)) (fun _ hk => hk.2) (.int .i64 (wrap64 (x13_2 + x16_20)))) (fun _ hk => hk.2) (.int .i64 x14_2)) (fun _ hk => hk.2) (.int .i64 (wrap64 (x14_2 + x16_20)))) (fun _ hk => hk.2) (.int .i64 x15_2)) (fun _ hk => hk.2) (.int .i64 (wrap64 (x15_2 + x16_20)))) (fun _ hk => hk.1.2))); (case aS => exact (below_size (by repeat (first | (with_reducible first | exact HB.out | apply below_alloc | apply pw_below_drewN | apply below_drew1 | refine below_set ?_ GE105.out) | exact HB.out)))); (case aL => have := LMc47.out; omega); intro v117 w50 ho hb hg hat; rw [← Ny116.out] at ho; have n0_ := Aside0.mk (blk_grown (g := gb105) (o := .cells #[.bool (decide (x16_20 > 0)), .int .i64 x13_2, .int .i64 (wrap64 (x13_2 + x16_20)), .int .i64 x14_2, .int .i64 (wrap64 (x14_2 + x16_20)), .int .i64 x15_2, .int .i64 (wrap64 (x15_2 + x16_20))] 81 (0, 0)) (by (with_reducible repeat (first | refine blk_drewN ?_ _ | refine blk_drew ?_ | refine blk_alloc ?_ _)); refine blk_put (cs := #[.bool (decide (x16_20 > 0)), .int .i64 x13_2, .int .i64 (wrap64 (x13_2 + x16_20)), .int .i64 x14_2, .int .i64 (wrap64 (x14_2 + x16_20)), .int .i64 x15_2, .int .i64 0]) ?_ 6 _ rfl; (with_reducible repeat (first | refine blk_drewN ?_ _ | refine blk_drew ?_ | refine blk_alloc ?_ _)); refine blk_put (cs := #[.bool (decide (x16_20 > 0)), .int .i64 x13_2, .int .i64 (wrap64 (x13_2 + x16_20)), .int .i64 x14_2, .int .i64 (wrap64 (x14_2 + x16_20)), .int .i64 0, .int .i64 0]) ?_ 5 _ rfl; (with_reducible repeat (first | refine blk_drewN ?_ _ | refine blk_drew ?_ | refine blk_alloc ?_ _)); refine blk_put (cs := #[.bool (decide (x16_20 > 0)), .int .i64 x13_2, .int .i64 (wrap64 (x13_2 + x16_20)), .int .i64 x14_2, .int .i64 0, .int .i64 0, .int .i64 0]) ?_ 4 _ rfl; (with_reducible repeat (first | refine blk_drewN ?_ _ | refine blk_drew ?_ | refine blk_alloc ?_ _)); refine blk_put (cs := #[.bool (decide (x16_20 > 0)), .int .i64 x13_2, .int .i64 (wrap64 (x13_2 + x16_20)), .int .i64 0, .int .i64 0, .int .i64 0, .int .i64 0]) ?_ 3 _ rfl; (with_reducible repeat (first | refine blk_drewN ?_ _ | refine blk_drew ?_ | refine blk_alloc ?_ _)); refine blk_put (cs := #[.bool (decide (x16_20 > 0)), .int .i64 x13_2, .int .i64 0, .int .i64 0, .int .i64 0, .int .i64 0, .int .i64 0]) ?_ 2 _ rfl; (with_reducible repeat (first | refine blk_drewN ?_ _ | refine blk_drew ?_ | refine blk_alloc ?_ _)); refine blk_put (cs := #[.bool (decide (x16_20 > 0)), .int .i64 0, .int .i64 0, .int .i64 0, .int .i64 0, .int .i64 0, .int .i64 0]) ?_ 1 _ rfl; (with_reducible repeat (first | refine blk_drewN ?_ _ | refine blk_drew ?_ | refine blk_alloc ?_ _)); refine blk_put (cs := #[.bool false, .int .i64 0, .int .i64 0, .int .i64 0, .int .i64 0, .int .i64 0, .int .i64 0]) ?_ 0 _ rfl; (with_reducible repeat (first | refine blk_drewN ?_ _ | refine blk_drew ?_ | refine blk_alloc ?_ _)); exact BK105.out) hg (Kd.R_away HO_12.out (fun _ hk => hk.2))); have n1_ := Aside0.mk (hb); have n2_ := Aside0.mk (ho); clear BK105; clear HB; clear HO_12; have BK105 := n0_; have HB := n1_; have HO118 := n2_; clear n0_ n1_ n2_; clear ho hb hg hat; have hcz51_0 : w50.cell? ⟨gb105, 0, none⟩ = some (.bool (decide (x16_20 > 0))) := (blk_cell BK105.out 0).trans rfl; have hcz51_1 : w50.cell? ⟨gb105, 1, none⟩ = some (.int .i64 x13_2) := (blk_cell BK105.out 1).trans rfl; have hcz51_2 : w50.cell? ⟨gb105, 2, none⟩ = some (.int .i64 (wrap64 (x13_2 + x16_20))) := (blk_cell BK105.out 2).trans rfl; have hcz51_3 : w50.cell? ⟨gb105, 3, none⟩ = some (.int .i64 x14_2) := (blk_cell BK105.out 3).trans rfl; have hcz51_4 : w50.cell? ⟨gb105, 4, none⟩ = some (.int .i64 (wrap64 (x14_2 + x16_20))) := (blk_cell BK105.out 4).trans rfl; have hcz51_5 : w50.cell? ⟨gb105, 5, none⟩ = some (.int .i64 x15_2) := (blk_cell BK105.out 5).trans rfl; have hcz51_6 : w50.cell? ⟨gb105, 6, none⟩ = some (.int .i64 (wrap64 (x15_2 + x16_20))) := (blk_cell BK105.out 6).trans rfl; have hfz51_0 := blk_frozen BK105.out 0; have hfz51_1 := blk_frozen BK105.out 1; have hfz51_2 := blk_frozen BK105.out 2; have hfz51_3 := blk_frozen BK105.out 3; have hfz51_4 := blk_frozen BK105.out 4; have hfz51_5 := blk_frozen BK105.out 5; have hfz51_6 := blk_frozen BK105.out 6))
             repeat (go_quiet (first | ((with_reducible refine gate_dst (N := 17) rfl ?_); refine box_event ?hg (N := 17) ?hd (cs := #[.bool false, .int .i64 0, .int .i64 0, .int .i64 0, .int .i64 0, .int .i64 0, .int .i64 0]) (t := 81) ?hr ?_; (case hd => rfl); (case hg => rfl); (case hr => first | (go_simp; done) | (go_simp; rfl)); intro gb105 hg w48 hbox hb; have n0_ := Aside0.mk (Kd.R_below (Kd.R_elderB (by (with_reducible repeat (first | apply Kd.R_alloc | apply Kd.R_drewN | apply Kd.R_drew)); exact HO_12.out) gb105 (Nat.le_of_eq hg.symm)) hb); have n1_ := Aside0.mk (below_step (by repeat (first | (with_reducible first | exact HB.out | apply below_alloc | apply pw_below_drewN | apply below_drew1) | exact HB.out)) hb); have n2_ := Aside0.mk (hbox); have n3_ := Aside0.mk ((by rw [hg]; exact (below_size (by repeat (first | (with_reducible first | exact HB.out | apply below_alloc | apply pw_below_drewN | apply below_drew1) | exact HB.out))) : w.heap.size ≤ gb105)); have n4_ := Aside0.mk ((by rw [hg]; exact (below_size (by repeat (first | (with_reducible first | exact HB.out | apply below_alloc | apply pw_below_drewN | apply below_drew1) | exact HB.out))) : w.heap.size ≤ gb105)); clear HO_12; clear HB; have HO_12 := n0_; have HB := n1_; have BK105 := n2_; have GW105 := n3_; have GE105 := n4_; clear n0_ n1_ n2_ n3_ n4_; clear hb hbox hg; have hcz49_0 : w48.cell? ⟨gb105, 0, none⟩ = some (.bool false) := (blk_cell BK105.out 0).trans rfl; have hcz49_1 : w48.cell? ⟨gb105, 1, none⟩ = some (.int .i64 0) := (blk_cell BK105.out 1).trans rfl; have hcz49_2 : w48.cell? ⟨gb105, 2, none⟩ = some (.int .i64 0) := (blk_cell BK105.out 2).trans rfl; have hcz49_3 : w48.cell? ⟨gb105, 3, none⟩ = some (.int .i64 0) := (blk_cell BK105.out 3).trans rfl; have hcz49_4 : w48.cell? ⟨gb105, 4, none⟩ = some (.int .i64 0) := (blk_cell BK105.out 4).trans rfl; have hcz49_5 : w48.cell? ⟨gb105, 5, none⟩ = some (.int .i64 0) := (blk_cell BK105.out 5).trans rfl; have hcz49_6 : w48.cell? ⟨gb105, 6, none⟩ = some (.int .i64 0) := (blk_cell BK105.out 6).trans rfl; have hfz49_0 := blk_frozen BK105.out 0; have hfz49_1 := blk_frozen BK105.out 1; have hfz49_2 := blk_frozen BK105.out 2; have hfz49_3 := blk_frozen BK105.out 3; have hfz49_4 := blk_frozen BK105.out 4; have hfz49_5 := blk_frozen BK105.out 5; have hfz49_6 := blk_frozen BK105.out 6) | ((with_reducible refine gate_builtin (b := .append) (xs := #[.tmp 150, .tmp 152]) rfl ?_); at_builtin; refine Kd.R_append k81 (w0 := w) w.heap.size rfl (.tmp 150) (.tmp 152) 70 81 (.agg #[(.bool false), (.int .i64 0), (.int .i64 0), (.int .i64 0), (.int .i64 0), (.int .i64 0), (.int .i64 0)]) 56 rfl Try.underlying70 info81 rfl (by decide) (by omega) u12 x12_2 (⟨decide (x16_20 > 0), (⟨x13_2, wrap64 (x13_2 + x16_20)⟩ : S79), (⟨x14_2, wrap64 (x14_2 + x16_20)⟩ : S79), (⟨x15_2, wrap64 (x15_2 + x16_20)⟩ : S79)⟩ : S81) [.bool (decide (x16_20 > 0)), .int .i64 x13_2, .int .i64 (wrap64 (x13_2 + x16_20)), .int .i64 x14_2, .int .i64 (wrap64 (x14_2 + x16_20)), .int .i64 x15_2, .int .i64 (wrap64 (x15_2 + x16_20))] (fun k_ => k_ ≠ gb105) (fun _ => False) rfl (by first | (go_simp; done) | (go_simp; rfl)) ?aP (fun _ hk => hk.elim) ?aF ?aO ?aB ?aS ?aL ?_; (case aP => exact k81_mkM _ _ _ (⟨decide (x16_20 > 0), (⟨x13_2, wrap64 (x13_2 + x16_20)⟩ : S79), (⟨x14_2, wrap64 (x14_2 + x16_20)⟩ : S79), (⟨x15_2, wrap64 (x15_2 + x16_20)⟩ : S79)⟩ : S81)); (case aB => exact (by repeat (first | (with_reducible first | exact HB.out | apply below_alloc | apply pw_below_drewN | apply below_drew1 | refine below_set ?_ GE105.out) | exact HB.out))); (case aF => exact (fun k_ hk => Kd.freshB (g := gb105) (o := .cells #[.bool (decide (x16_20 > 0)), .int .i64 x13_2, .int .i64 (wrap64 (x13_2 + x16_20)), .int .i64 x14_2, .int .i64 (wrap64 (x14_2 + x16_20)), .int .i64 x15_2, .int .i64 (wrap64 (x15_2 + x16_20))] 81 (0, 0)) (by (with_reducible repeat (first | refine blk_drewN ?_ _ | refine blk_drew ?_ | refine blk_alloc ?_ _)); refine blk_put (cs := #[.bool (decide (x16_20 > 0)), .int .i64 x13_2, .int .i64 (wrap64 (x13_2 + x16_20)), .int .i64 x14_2, .int .i64 (wrap64 (x14_2 + x16_20)), .int .i64 x15_2, .int .i64 0]) ?_ 6 _ rfl; (with_reducible repeat (first | refine blk_drewN ?_ _ | refine blk_drew ?_ | refine blk_alloc ?_ _)); refine blk_put (cs := #[.bool (decide (x16_20 > 0)), .int .i64 x13_2, .int .i64 (wrap64 (x13_2 + x16_20)), .int .i64 x14_2, .int .i64 (wrap64 (x14_2 + x16_20)), .int .i64 0, .int .i64 0]) ?_ 5 _ rfl; (with_reducible repeat (first | refine blk_drewN ?_ _ | refine blk_drew ?_ | refine blk_alloc ?_ _)); refine blk_put (cs := #[.bool (decide (x16_20 > 0)), .int .i64 x13_2, .int .i64 (wrap64 (x13_2 + x16_20)), .int .i64 x14_2, .int .i64 0, .int .i64 0, .int .i64 0]) ?_ 4 _ rfl; (with_reducible repeat (first | refine blk_drewN ?_ _ | refine blk_drew ?_ | refine blk_alloc ?_ _)); refine blk_put (cs := #[.bool (decide (x16_20 > 0)), .int .i64 x13_2, .int .i64 (wrap64 (x13_2 + x16_20)), .int .i64 0, .int .i64 0, .int .i64 0, .int .i64 0]) ?_ 3 _ rfl; (with_reducible repeat (first | refine blk_drewN ?_ _ | refine blk_drew ?_ | refine blk_alloc ?_ _)); refine blk_put (cs := #[.bool (decide (x16_20 > 0)), .int .i64 x13_2, .int .i64 0, .int .i64 0, .int .i64 0, .int .i64 0, .int .i64 0]) ?_ 2 _ rfl; (with_reducible repeat (first | refine blk_drewN ?_ _ | refine blk_drew ?_ | refine blk_alloc ?_ _)); refine blk_put (cs := #[.bool (decide (x16_20 > 0)), .int .i64 0, .int .i64 0, .int .i64 0, .int .i64 0, .int .i64 0, .int .i64 0]) ?_ 1 _ rfl; (with_reducible repeat (first | refine blk_drewN ?_ _ | refine blk_drew ?_ | refine blk_alloc ?_ _)); refine blk_put (cs := #[.bool false, .int .i64 0, .int .i64 0, .int .i64 0, .int .i64 0, .int .i64 0, .int .i64 0]) ?_ 0 _ rfl; (with_reducible repeat (first | refine blk_drewN ?_ _ | refine blk_drew ?_ | refine blk_alloc ?_ _)); exact BK105.out) k_ hk)); (case aO => exact (by (with_reducible repeat (first | apply Kd.R_alloc | apply Kd.R_drewN | apply Kd.R_drew)); exact Kd.R_mono (Kd.R_far (p := ⟨gb105, 6, none⟩) (Kd.R_far (p := ⟨gb105, 5, none⟩) (Kd.R_far (p := ⟨gb105, 4, none⟩) (Kd.R_far (p := ⟨gb105, 3, none⟩) (Kd.R_far (p := ⟨gb105, 2, none⟩) (Kd.R_far (p := ⟨gb105, 1, none⟩) (Kd.R_far (p := ⟨gb105, 0, none⟩) (Kd.R_mono HO_12.out (fun k_ hk => (⟨hk, hk.2⟩ : _ ∧ k_ ≠ gb105))) (fun _ hk => hk.2) (.bool (decide (x16_20 > 0)))) (fun _ hk => hk.2) (.int .i64 x13_2)) (fun _ hk => hk.2) (.int .i64 (wrap64 (x13_2 + x16_20)))) (fun _ hk => hk.2) (.int .i64 x14_2)) (fun _ hk => hk.2) (.int .i64 (wrap64 (x14_2 + x16_20)))) (fun _ hk => hk.2) (.int .i64 x15_2)) (fun _ hk => hk.2) (.int .i64 (wrap64 (x15_2 + x16_20)))) (fun _ hk => hk.1.2))); (case aS => exact (below_size (by repeat (first | (with_reducible first | exact HB.out | apply below_alloc | apply pw_below_drewN | apply below_drew1 | refine below_set ?_ GE105.out) | exact HB.out)))); (case aL => have := LMc47.out; omega); intro v117 w50 ho hb hg hat; rw [← Ny116.out] at ho; have n0_ := Aside0.mk (blk_grown (g := gb105) (o := .cells #[.bool (decide (x16_20 > 0)), .int .i64 x13_2, .int .i64 (wrap64 (x13_2 + x16_20)), .int .i64 x14_2, .int .i64 (wrap64 (x14_2 + x16_20)), .int .i64 x15_2, .int .i64 (wrap64 (x15_2 + x16_20))] 81 (0, 0)) (by (with_reducible repeat (first | refine blk_drewN ?_ _ | refine blk_drew ?_ | refine blk_alloc ?_ _)); refine blk_put (cs := #[.bool (decide (x16_20 > 0)), .int .i64 x13_2, .int .i64 (wrap64 (x13_2 + x16_20)), .int .i64 x14_2, .int .i64 (wrap64 (x14_2 + x16_20)), .int .i64 x15_2, .int .i64 0]) ?_ 6 _ rfl; (with_reducible repeat (first | refine blk_drewN ?_ _ | refine blk_drew ?_ | refine blk_alloc ?_ _)); refine blk_put (cs := #[.bool (decide (x16_20 > 0)), .int .i64 x13_2, .int .i64 (wrap64 (x13_2 + x16_20)), .int .i64 x14_2, .int .i64 (wrap64 (x14_2 + x16_20)), .int .i64 0, .int .i64 0]) ?_ 5 _ rfl; (with_reducible repeat (first | refine blk_drewN ?_ _ | refine blk_drew ?_ | refine blk_alloc ?_ _)); refine blk_put (cs := #[.bool (decide (x16_20 > 0)), .int .i64 x13_2, .int .i64 (wrap64 (x13_2 + x16_20)), .int .i64 x14_2, .int .i64 0, .int .i64 0, .int .i64 0]) ?_ 4 _ rfl; (with_reducible repeat (first | refine blk_drewN ?_ _ | refine blk_drew ?_ | refine blk_alloc ?_ _)); refine blk_put (cs := #[.bool (decide (x16_20 > 0)), .int .i64 x13_2, .int .i64 (wrap64 (x13_2 + x16_20)), .int .i64 0, .int .i64 0, .int .i64 0, .int .i64 0]) ?_ 3 _ rfl; (with_reducible repeat (first | refine blk_drewN ?_ _ | refine blk_drew ?_ | refine blk_alloc ?_ _)); refine blk_put (cs := #[.bool (decide (x16_20 > 0)), .int .i64 x13_2, .int .i64 0, .int .i64 0, .int .i64 0, .int .i64 0, .int .i64 0]) ?_ 2 _ rfl; (with_reducible repeat (first | refine blk_drewN ?_ _ | refine blk_drew ?_ | refine blk_alloc ?_ _)); refine blk_put (cs := #[.bool (decide (x16_20 > 0)), .int .i64 0, .int .i64 0, .int .i64 0, .int .i64 0, .int .i64 0, .int .i64 0]) ?_ 1 _ rfl; (with_reducible repeat (first | refine blk_drewN ?_ _ | refine blk_drew ?_ | refine blk_alloc ?_ _)); refine blk_put (cs := #[.bool false, .int .i64 0, .int .i64 0, .int .i64 0, .int .i64 0, .int .i64 0, .int .i64 0]) ?_ 0 _ rfl; (with_reducible repeat (first | refine blk_drewN ?_ _ | refine blk_drew ?_ | refine blk_alloc ?_ _)); exact BK105.out) hg (Kd.R_away HO_12.out (fun _ hk => hk.2))); have n1_ := Aside0.mk (hb); have n2_ := Aside0.mk (ho); clear BK105; clear HB; clear HO_12; have BK105 := n0_; have HB := n1_; have HO118 := n2_; clear n0_ n1_ n2_; clear ho hb hg hat; have hcz51_0 : w50.cell? ⟨gb105, 0, none⟩ = some (.bool (decide (x16_20 > 0))) := (blk_cell BK105.out 0).trans rfl; have hcz51_1 : w50.cell? ⟨gb105, 1, none⟩ = some (.int .i64 x13_2) := (blk_cell BK105.out 1).trans rfl; have hcz51_2 : w50.cell? ⟨gb105, 2, none⟩ = some (.int .i64 (wrap64 (x13_2 + x16_20))) := (blk_cell BK105.out 2).trans rfl; have hcz51_3 : w50.cell? ⟨gb105, 3, none⟩ = some (.int .i64 x14_2) := (blk_cell BK105.out 3).trans rfl; have hcz51_4 : w50.cell? ⟨gb105, 4, none⟩ = some (.int .i64 (wrap64 (x14_2 + x16_20))) := (blk_cell BK105.out 4).trans rfl; have hcz51_5 : w50.cell? ⟨gb105, 5, none⟩ = some (.int .i64 x15_2) := (blk_cell BK105.out 5).trans rfl; have hcz51_6 : w50.cell? ⟨gb105, 6, none⟩ = some (.int .i64 (wrap64 (x15_2 + x16_20))) := (blk_cell BK105.out 6).trans rfl; have hfz51_0 := blk_frozen BK105.out 0; have hfz51_1 := blk_frozen BK105.out 1; have hfz51_2 := blk_frozen BK105.out 2; have hfz51_3 := blk_frozen BK105.out 3; have hfz51_4 := blk_frozen BK105.out 4; have hfz51_5 := blk_frozen BK105.out 5; have hfz51_6 := blk_frozen BK105.out 6)); try go_wp2_with (first | ((with_reducible refine gate_dst (N := 17) rfl ?_); refine box_event ?hg (N := 17) ?hd (cs := #[.bool false, .int .i64 0, .int .i64 0, .int .i64 0, .int .i64 0, .int .i64 0, .int .i64 0]) (t := 81) ?hr ?_; (case hd => rfl); (case hg => rfl); (case hr => first | (go_simp; done) | (go_simp; rfl)); intro gb105 hg w48 hbox hb; have n0_ := Aside0.mk (Kd.R_below (Kd.R_elderB (by (with_reducible repeat (first | apply Kd.R_alloc | apply Kd.R_drewN | apply Kd.R_drew)); exact HO_12.out) gb105 (Nat.le_of_eq hg.symm)) hb); have n1_ := Aside0.mk (below_step (by repeat (first | (with_reducible first | exact HB.out | apply below_alloc | apply pw_below_drewN | apply below_drew1) | exact HB.out)) hb); have n2_ := Aside0.mk (hbox); have n3_ := Aside0.mk ((by rw [hg]; exact (below_size (by repeat (first | (with_reducible first | exact HB.out | apply below_alloc | apply pw_below_drewN | apply below_drew1) | exact HB.out))) : w.heap.size ≤ gb105)); have n4_ := Aside0.mk ((by rw [hg]; exact (below_size (by repeat (first | (with_reducible first | exact HB.out | apply below_alloc | apply pw_below_drewN | apply below_drew1) | exact HB.out))) : w.heap.size ≤ gb105)); clear HO_12; clear HB; have HO_12 := n0_; have HB := n1_; have BK105 := n2_; have GW105 := n3_; have GE105 := n4_; clear n0_ n1_ n2_ n3_ n4_; clear hb hbox hg; have hcz49_0 : w48.cell? ⟨gb105, 0, none⟩ = some (.bool false) := (blk_cell BK105.out 0).trans rfl; have hcz49_1 : w48.cell? ⟨gb105, 1, none⟩ = some (.int .i64 0) := (blk_cell BK105.out 1).trans rfl; have hcz49_2 : w48.cell? ⟨gb105, 2, none⟩ = some (.int .i64 0) := (blk_cell BK105.out 2).trans rfl; have hcz49_3 : w48.cell? ⟨gb105, 3, none⟩ = some (.int .i64 0) := (blk_cell BK105.out 3).trans rfl; have hcz49_4 : w48.cell? ⟨gb105, 4, none⟩ = some (.int .i64 0) := (blk_cell BK105.out 4).trans rfl; have hcz49_5 : w48.cell? ⟨gb105, 5, none⟩ = some (.int .i64 0) := (blk_cell BK105.out 5).trans rfl; have hcz49_6 : w48.cell? ⟨gb105, 6, none⟩ = some (.int .i64 0) := (blk_cell BK105.out 6).trans rfl; have hfz49_0 := blk_frozen BK105.out 0; have hfz49_1 := blk_frozen BK105.out 1; have hfz49_2 := blk_frozen BK105.out 2; have hfz49_3 := blk_frozen BK105.out 3; have hfz49_4 := blk_frozen BK105.out 4; have hfz49_5 := blk_frozen BK105.out 5; have hfz49_6 := blk_frozen BK105.out 6) | ((with_reducible refine gate_builtin (b := .append) (xs := #[.tmp 150, .tmp 152]) rfl ?_); at_builtin; refine Kd.R_append k81 (w0 := w) w.heap.size rfl (.tmp 150) (.tmp 152) 70 81 (.agg #[(.bool false), (.int .i64 0), (.int .i64 0), (.int .i64 0), (.int .i64 0), (.int .i64 0), (.int .i64 0)]) 56 rfl Try.underlying70 info81 rfl (by decide) (by omega) u12 x12_2 (⟨decide (x16_20 > 0), (⟨x13_2, wrap64 (x13_2 + x16_20)⟩ : S79), (⟨x14_2, wrap64 (x14_2 + x16_20)⟩ : S79), (⟨x15_2, wrap64 (x15_2 + x16_20)⟩ : S79)⟩ : S81) [.bool (decide (x16_20 > 0)), .int .i64 x13_2, .int .i64 (wrap64 (x13_2 + x16_20)), .int .i64 x14_2, .int .i64 (wrap64 (x14_2 + x16_20)), .int .i64 x15_2, .int .i64 (wrap64 (x15_2 + x16_20))] (fun k_ => k_ ≠ gb105) (fun _ => False) rfl (by first | (go_simp; done) | (go_simp; rfl)) ?aP (fun _ hk => hk.elim) ?aF ?aO ?aB ?aS ?aL ?_; (case aP => exact k81_mkM _ _ _ (⟨decide (x16_20 > 0), (⟨x13_2, wrap64 (x13_2 + x16_20)⟩ : S79), (⟨x14_2, wrap64 (x14_2 + x16_20)⟩ : S79), (⟨x15_2, wrap64 (x15_2 + x16_20)⟩ : S79)⟩ : S81)); (case aB => exact (by repeat (first | (with_reducible first | exact HB.out | apply below_alloc | apply pw_below_drewN | apply below_drew1 | refine below_set ?_ GE105.out) | exact HB.out))); (case aF => exact (fun k_ hk => Kd.freshB (g := gb105) (o := .cells #[.bool (decide (x16_20 > 0)), .int .i64 x13_2, .int .i64 (wrap64 (x13_2 + x16_20)), .int .i64 x14_2, .int .i64 (wrap64 (x14_2 + x16_20)), .int .i64 x15_2, .int .i64 (wrap64 (x15_2 + x16_20))] 81 (0, 0)) (by (with_reducible repeat (first | refine blk_drewN ?_ _ | refine blk_drew ?_ | refine blk_alloc ?_ _)); refine blk_put (cs := #[.bool (decide (x16_20 > 0)), .int .i64 x13_2, .int .i64 (wrap64 (x13_2 + x16_20)), .int .i64 x14_2, .int .i64 (wrap64 (x14_2 + x16_20)), .int .i64 x15_2, .int .i64 0]) ?_ 6 _ rfl; (with_reducible repeat (first | refine blk_drewN ?_ _ | refine blk_drew ?_ | refine blk_alloc ?_ _)); refine blk_put (cs := #[.bool (decide (x16_20 > 0)), .int .i64 x13_2, .int .i64 (wrap64 (x13_2 + x16_20)), .int .i64 x14_2, .int .i64 (wrap64 (x14_2 + x16_20)), .int .i64 0, .int .i64 0]) ?_ 5 _ rfl; (with_reducible repeat (first | refine blk_drewN ?_ _ | refine blk_drew ?_ | refine blk_alloc ?_ _)); refine blk_put (cs := #[.bool (decide (x16_20 > 0)), .int .i64 x13_2, .int .i64 (wrap64 (x13_2 + x16_20)), .int .i64 x14_2, .int .i64 0, .int .i64 0, .int .i64 0]) ?_ 4 _ rfl; (with_reducible repeat (first | refine blk_drewN ?_ _ | refine blk_drew ?_ | refine blk_alloc ?_ _)); refine blk_put (cs := #[.bool (decide (x16_20 > 0)), .int .i64 x13_2, .int .i64 (wrap64 (x13_2 + x16_20)), .int .i64 0, .int .i64 0, .int .i64 0, .int .i64 0]) ?_ 3 _ rfl; (with_reducible repeat (first | refine blk_drewN ?_ _ | refine blk_drew ?_ | refine blk_alloc ?_ _)); refine blk_put (cs := #[.bool (decide (x16_20 > 0)), .int .i64 x13_2, .int .i64 0, .int .i64 0, .int .i64 0, .int .i64 0, .int .i64 0]) ?_ 2 _ rfl; (with_reducible repeat (first | refine blk_drewN ?_ _ | refine blk_drew ?_ | refine blk_alloc ?_ _)); refine blk_put (cs := #[.bool (decide (x16_20 > 0)), .int .i64 0, .int .i64 0, .int .i64 0, .int .i64 0, .int .i64 0, .int .i64 0]) ?_ 1 _ rfl; (with_reducible repeat (first | refine blk_drewN ?_ _ | refine blk_drew ?_ | refine blk_alloc ?_ _)); refine blk_put (cs := #[.bool false, .int .i64 0, .int .i64 0, .int .i64 0, .int .i64 0, .int .i64 0, .int .i64 0]) ?_ 0 _ rfl; (with_reducible repeat (first | refine blk_drewN ?_ _ | refine blk_drew ?_ | refine blk_alloc ?_ _)); exact BK105.out) k_ hk)); (case aO => exact (by (with_reducible repeat (first | apply Kd.R_alloc | apply Kd.R_drewN | apply Kd.R_drew)); exact Kd.R_mono (Kd.R_far (p := ⟨gb105, 6, none⟩) (Kd.R_far (p := ⟨gb105, 5, none⟩) (Kd.R_far (p := ⟨gb105, 4, none⟩) (Kd.R_far (p := ⟨gb105, 3, none⟩) (Kd.R_far (p := ⟨gb105, 2, none⟩) (Kd.R_far (p := ⟨gb105, 1, none⟩) (Kd.R_far (p := ⟨gb105, 0, none⟩) (Kd.R_mono HO_12.out (fun k_ hk => (⟨hk, hk.2⟩ : _ ∧ k_ ≠ gb105))) (fun _ hk => hk.2) (.bool (decide (x16_20 > 0)))) (fun _ hk => hk.2) (.int .i64 x13_2)) (fun _ hk => hk.2) (.int .i64 (wrap64 (x13_2 + x16_20)))) (fun _ hk => hk.2) (.int .i64 x14_2)) (fun _ hk => hk.2) (.int .i64 (wrap64 (x14_2 + x16_20)))) (fun _ hk => hk.2) (.int .i64 x15_2)) (fun _ hk => hk.2) (.int .i64 (wrap64 (x15_2 + x16_20)))) (fun _ hk => hk.1.2))); (case aS => exact (below_size (by repeat (first | (with_reducible first | exact HB.out | apply below_alloc | apply pw_below_drewN | apply below_drew1 | refine below_set ?_ GE105.out) | exact HB.out)))); (case aL => have := LMc47.out; omega); intro v117 w50 ho hb hg hat; rw [← Ny116.out] at ho; have n0_ := Aside0.mk (blk_grown (g := gb105) (o := .cells #[.bool (decide (x16_20 > 0)), .int .i64 x13_2, .int .i64 (wrap64 (x13_2 + x16_20)), .int .i64 x14_2, .int .i64 (wrap64 (x14_2 + x16_20)), .int .i64 x15_2, .int .i64 (wrap64 (x15_2 + x16_20))] 81 (0, 0)) (by (with_reducible repeat (first | refine blk_drewN ?_ _ | refine blk_drew ?_ | refine blk_alloc ?_ _)); refine blk_put (cs := #[.bool (decide (x16_20 > 0)), .int .i64 x13_2, .int .i64 (wrap64 (x13_2 + x16_20)), .int .i64 x14_2, .int .i64 (wrap64 (x14_2 + x16_20)), .int .i64 x15_2, .int .i64 0]) ?_ 6 _ rfl; (with_reducible repeat (first | refine blk_drewN ?_ _ | refine blk_drew ?_ | refine blk_alloc ?_ _)); refine blk_put (cs := #[.bool (decide (x16_20 > 0)), .int .i64 x13_2, .int .i64 (wrap64 (x13_2 + x16_20)), .int .i64 x14_2, .int .i64 (wrap64 (x14_2 + x16_20)), .int .i64 0, .int .i64 0]) ?_ 5 _ rfl; (with_reducible repeat (first | refine blk_drewN ?_ _ | refine blk_drew ?_ | refine blk_alloc ?_ _)); refine blk_put (cs := #[.bool (decide (x16_20 > 0)), .int .i64 x13_2, .int .i64 (wrap64 (x13_2 + x16_20)), .int .i64 x14_2, .int .i64 0, .int .i64 0, .int .i64 0]) ?_ 4 _ rfl; (with_reducible repeat (first | refine blk_drewN ?_ _ | refine blk_drew ?_ | refine blk_alloc ?_ _)); refine blk_put (cs := #[.bool (decide (x16_20 > 0)), .int .i64 x13_2, .int .i64 (wrap64 (x13_2 + x16_20)), .int .i64 0, .int .i64 0, .int .i64 0, .int .i64 0]) ?_ 3 _ rfl; (with_reducible repeat (first | refine blk_drewN ?_ _ | refine blk_drew ?_ | refine blk_alloc ?_ _)); refine blk_put (cs := #[.bool (decide (x16_20 > 0)), .int .i64 x13_2, .int .i64 0, .int .i64 0, .int .i64 0, .int .i64 0, .int .i64 0]) ?_ 2 _ rfl; (with_reducible repeat (first | refine blk_drewN ?_ _ | refine blk_drew ?_ | refine blk_alloc ?_ _)); refine blk_put (cs := #[.bool (decide (x16_20 > 0)), .int .i64 0, .int .i64 0, .int .i64 0, .int .i64 0, .int .i64 0, .int .i64 0]) ?_ 1 _ rfl; (with_reducible repeat (first | refine blk_drewN ?_ _ | refine blk_drew ?_ | refine blk_alloc ?_ _)); refine blk_put (cs := #[.bool false, .int .i64 0, .int .i64 0, .int .i64 0, .int .i64 0, .int .i64 0, .int .i64 0]) ?_ 0 _ rfl; (with_reducible repeat (first | refine blk_drewN ?_ _ | refine blk_drew ?_ | refine blk_alloc ?_ _)); exact BK105.out) hg (Kd.R_away HO_12.out (fun _ hk => hk.2))); have n1_ := Aside0.mk (hb); have n2_ := Aside0.mk (ho); clear BK105; clear HB; clear HO_12; have BK105 := n0_; have HB := n1_; have HO118 := n2_; clear n0_ n1_ n2_; clear ho hb hg hat; have hcz51_0 : w50.cell? ⟨gb105, 0, none⟩ = some (.bool (decide (x16_20 > 0))) := (blk_cell BK105.out 0).trans rfl; have hcz51_1 : w50.cell? ⟨gb105, 1, none⟩ = some (.int .i64 x13_2) := (blk_cell BK105.out 1).trans rfl; have hcz51_2 : w50.cell? ⟨gb105, 2, none⟩ = some (.int .i64 (wrap64 (x13_2 + x16_20))) := (blk_cell BK105.out 2).trans rfl; have hcz51_3 : w50.cell? ⟨gb105, 3, none⟩ = some (.int .i64 x14_2) := (blk_cell BK105.out 3).trans rfl; have hcz51_4 : w50.cell? ⟨gb105, 4, none⟩ = some (.int .i64 (wrap64 (x14_2 + x16_20))) := (blk_cell BK105.out 4).trans rfl; have hcz51_5 : w50.cell? ⟨gb105, 5, none⟩ = some (.int .i64 x15_2) := (blk_cell BK105.out 5).trans rfl; have hcz51_6 : w50.cell? ⟨gb105, 6, none⟩ = some (.int .i64 (wrap64 (x15_2 + x16_20))) := (blk_cell BK105.out 6).trans rfl; have hfz51_0 := blk_frozen BK105.out 0; have hfz51_1 := blk_frozen BK105.out 1; have hfz51_2 := blk_frozen BK105.out 2; have hfz51_3 := blk_frozen BK105.out 3; have hfz51_4 := blk_frozen BK105.out 4; have hfz51_5 := blk_frozen BK105.out 5; have hfz51_6 := blk_frozen BK105.out 6)))
             go_roundg kj20
             case measure => have := HJ5.out; have := HK2.out; have := HJ16.out; have := HJ20.out; omega
             case rel => exact ⟨(y116), (wrap64 (x13_2 + x16_20)), (wrap64 (x14_2 + x16_20)), (wrap64 (x15_2 + x16_20)), (by first | rfl | (simp; done) | (simp [*]; done)), (by first | rfl | (simp; done) | (simp [*]; done)), (by first | rfl | (simp; done) | (simp [*]; done)), H', ⟨by have := HJ5.out; have := HK2.out; have := HJ16.out; have := HJ20.out; omega⟩, ⟨by (with_reducible repeat (first | apply Kd.R_alloc | apply Kd.R_drewN | apply Kd.R_drew)); exact Kd.R_mono HO118.out (fun _ hk => trivial)⟩, ⟨by repeat (first | (with_reducible first | exact HB.out | apply below_alloc | apply pw_below_drewN | apply below_drew1 | refine below_set ?_ GE105.out) | exact HB.out)⟩⟩
            ·rw [if_neg c47] at H
             exact absurd H (by simp)
        ·replace c20 := Bool.eq_false_iff.mpr c20
         subst c20
         have H1 : (some (x12_2, true)) = some (r1, r2) := by rw [if_neg (show ¬ (false = true) by decide)] at H; exact H
         clear H
         have H := H1
         clear H1
         simp only [Option.some.injEq, Prod.mk.injEq] at H
         obtain ⟨rfl, rfl⟩ := H
         go_wp2
         repeat (go_quiet (fail); try go_wp2)
         go_ret2
         exact ⟨_, by first | rfl | (simp [errW_none, errW_some] <;> rfl) | (simp [*, errW_none, errW_some] <;> rfl), by (with_reducible repeat (first | apply Kd.R_alloc | apply Kd.R_drewN | apply Kd.R_drew)); exact HO_12.out, by repeat (first | (with_reducible first | exact HB.out | apply below_alloc | apply pw_below_drewN | apply below_drew1) | exact HB.out)⟩
end Go.Proofs.Ytadafplbgophfaa.PA
end
section
namespace Go.Proofs.Ytadafplbgophfaa.PA
open Go.RowKit Go.Proofs.YtadafplbgophfaaW.PrintWords Go.Proofs.YtadafplbgophfaaW.PrintLast Go.Proofs.YtadafplbgophfaaW.PrintMore
section
variable {α : Type} {P : Program}
theorem cut_lh (k : Kd α) (t e : TypeId) {i : TypeInfo} (ht : P.underlying t = some (.slice e)) (hi : P.info? e = some i) (hsz : i.size = k.sz) (A : Option Addr) (c : Nat) (xs : List α) (a b : Int) (h0 : 0 ≤ a) (h1 : a ≤ b) (hm : b ≤ xs.length) (hc : xs.length ≤ c) :
    ∃ (A' : Option Addr) (c' : Nat), (∀ W : World, (Instr.slice t (.slice A xs.length c) (some (.int .i64 a)) (some (.int .i64 b)) none).run P W = .ok (.slice A' ((xs.take b.toNat).drop a.toNat).length c') W) ∧
      (∀ w : World, k.C w A xs.length xs → k.C w A' ((xs.take b.toNat).drop a.toNat).length ((xs.take b.toNat).drop a.toNat)) ∧ ((xs.take b.toNat).drop a.toNat).length ≤ c' := by
  have hlt : (xs.take b.toNat).length = b.toNat := by rw [List.length_take]; omega
  have hl : ((xs.take b.toNat).drop a.toNat).length = b.toNat - a.toNat := by rw [List.length_drop, hlt]
  refine ⟨if c = a.toNat then A else A.map (·.add (a.toNat * k.sz)), c - a.toNat, fun W => ?_, fun w h => ?_, by rw [hl]; omega⟩
  · rw [hl]; exact cut_mid t e .i64 .i64 ht hi k.sz hsz A xs.length c a b h0 h1 hm hc W
  · exact Kd.C_mid h (by omega) (by omega) hc
theorem cut_l (k : Kd α) (t e : TypeId) {i : TypeInfo} (ht : P.underlying t = some (.slice e)) (hi : P.info? e = some i) (hsz : i.size = k.sz) (A : Option Addr) (c : Nat) (xs : List α) (a : Int) (h0 : 0 ≤ a) (hm : a ≤ xs.length) (hc : xs.length ≤ c) :
    ∃ (A' : Option Addr) (c' : Nat), (∀ W : World, (Instr.slice t (.slice A xs.length c) (some (.int .i64 a)) none none).run P W = .ok (.slice A' (xs.drop a.toNat).length c') W) ∧
      (∀ w : World, k.C w A xs.length xs → k.C w A' (xs.drop a.toNat).length (xs.drop a.toNat)) ∧ (xs.drop a.toNat).length ≤ c' := by
  have hl : (xs.drop a.toNat).length = xs.length - a.toNat := List.length_drop
  refine ⟨if c = a.toNat then A else A.map (·.add (a.toNat * k.sz)), c - a.toNat, fun W => ?_, fun w h => Kd.C_drop h (by omega) hc, by rw [hl]; omega⟩
  have hel : P.elem t = e := by simp [Program.elem, ht]
  have hu : P.underlying t = some (.slice (P.elem t)) := by rw [hel]; exact ht
  rw [run_slice_l W t A xs.length c hu .i64 a h0 (by omega), hel, hl]
  simp [sizeOf, typeInfo, hi, hsz, sliced, Result.andThen]
theorem cut_h (k : Kd α) (t e : TypeId) {i : TypeInfo} (ht : P.underlying t = some (.slice e)) (hi : P.info? e = some i) (hsz : i.size = k.sz) (A : Option Addr) (c : Nat) (xs : List α) (b : Int) (h0 : 0 ≤ b) (hm : b ≤ xs.length) (hc : xs.length ≤ c) :
    (∀ W : World, (Instr.slice t (.slice A xs.length c) none (some (.int .i64 b)) none).run P W = .ok (.slice A (xs.take b.toNat).length c) W) ∧
      (∀ w : World, k.C w A xs.length xs → k.C w A (xs.take b.toNat).length (xs.take b.toNat)) ∧ (xs.take b.toNat).length ≤ c := by
  have hl : (xs.take b.toNat).length = b.toNat := by rw [List.length_take]; omega
  refine ⟨fun W => ?_, fun w h => Kd.C_take h (by omega), by rw [hl]; omega⟩
  have hel : P.elem t = e := by simp [Program.elem, ht]
  have hu : P.underlying t = some (.slice (P.elem t)) := by rw [hel]; exact ht
  have ha : (A.map fun x => x.add 0) = A := by cases A <;> simp [Addr.add]
  rw [run_slice_h W t A xs.length c hu .i64 b h0 (by omega), hel, hl]
  simp [sizeOf, typeInfo, hi, hsz, sliced, Result.andThen, ha]
theorem C_lit (d : Kd α) (hsz : d.sz = 1) (W : World) (e : TypeId) (xs : List α) (vs : List Value) (hl : vs.length = xs.length) (hmax : xs.length ≤ 9223372036854775807)
    (hK : ∀ (j : Nat) (p : α) (u : Value), xs[j]? = some p → vs[j]? = some u → d.K W p [u]) : d.C (W.alloc (.cells vs.toArray e (0, 0))) (some ⟨W.heap.size, 0, none⟩) xs.length xs := by
  refine ⟨rfl, hmax, fun _ => ⟨_, rfl, fun j p hj => ?_⟩⟩
  have hjl : j < vs.length := by have := (List.getElem?_eq_some_iff.1 hj).1; omega
  have hu : vs[j]? = some vs[j] := List.getElem?_eq_getElem hjl
  refine ⟨[vs[j]], by rw [hsz]; rfl, d.K_below (below_alloc (Below.refl _ _) _) (hK j p _ hj hu), fun i u hi => ?_⟩
  obtain rfl : i = 0 := by
    have := (List.getElem?_eq_some_iff.1 hi).1
    simpa using this
  obtain rfl : vs[j] = u := by simpa using hi
  rw [hsz, Nat.mul_one, Nat.add_zero, add_plain]
  refine (blk_cell (blk_new W _) j).trans ?_
  simp [hu]
end
end Go.Proofs.Ytadafplbgophfaa.PA
end
section
namespace Go.Proofs.Ytadafplbgophfaa.PA
set_option linter.unusedSimpArgs false
set_option linter.unusedVariables false
open Go.RowKit Go.Proofs.YtadafplbgophfaaW.PrintWords Go.Proofs.YtadafplbgophfaaW.PrintLast Go.Proofs.YtadafplbgophfaaW.PrintMore
def tripartitelaw10_Some.f (k : Nat) (base left right : ByteArray) : Option (List ByteArray × List ByteArray × List ByteArray × List S81) :=
 (tripartiteref01_Split.f k base).bind fun s1 => (tripartiteref01_Split.f k left).bind fun s2 => (tripartiteref01_Split.f k right).bind fun s3 =>
 (tripartiteref01_Number.f k [s1, s2, s3]).bind fun nn => if nn.length = 3 then
  (tripartiteref03_Some.f k (rd_L6 nn 0) (rd_L6 nn 1)).bind fun p1 => (tripartiteref03_Some.f k (rd_L6 nn 0) (rd_L6 nn 2)).bind fun p2 =>
  (tripartiteref06_Of.f k (s1.length : Int) (s2.length : Int) (s3.length : Int) p1 p2).bind fun r => some (s1, s2, s3, r.1)
 else none
theorem size_set71 (w : World) (p : Addr) (u : Value) : (w.setCell p u).heap.size = w.heap.size := by simp [World.setCell]
theorem hold6_71 {W w' : World} {a0 a1 a2 a3 a4 a5 : Addr} {v0 v1 v2 v3 v4 v5 : Value} (hb : Below W.heap.size W w') (h : W.cell? a0 = some v0 ∧ W.cell? a1 = some v1 ∧ W.cell? a2 = some v2 ∧ W.cell? a3 = some v3 ∧ W.cell? a4 = some v4 ∧ W.cell? a5 = some v5) : w'.cell? a0 = some v0 ∧ w'.cell? a1 = some v1 ∧ w'.cell? a2 = some v2 ∧ w'.cell? a3 = some v3 ∧ w'.cell? a4 = some v4 ∧ w'.cell? a5 = some v5 := ⟨pw_cell_below hb h.1, pw_cell_below hb h.2.1, pw_cell_below hb h.2.2.1, pw_cell_below hb h.2.2.2.1, pw_cell_below hb h.2.2.2.2.1, pw_cell_below hb h.2.2.2.2.2⟩
theorem F_on71 {α : Type} {d : Kd α} {w w1 : World} {ok : Nat → Prop} {A : Option Addr} {n : Nat} {xs : List α} (h : Kd.F d w ok A n xs) (hb : Below w.heap.size w w1) : Kd.F d w1 ok A n xs := Kd.F_mono (Kd.F_old h hb) (fun _ hk => hk.1)
theorem away71 {α : Type} {d : Kd α} {e base g : Nat} {w : World} {ok : Nat → Prop} {A : Option Addr} {c : Nat} {xs : List α} (hE : d.E = []) (h : Kd.R d e w base ok (.slice A xs.length c) xs) (hg : g < base) : Kd.F d w (fun k => k ≠ g) A xs.length xs :=
 Kd.F_mono (Kd.R_F (Kd.R_tight hE h)) (fun k hk e => by have := Kd.R_base h k hk.symm; omega)
theorem F_set3 {α : Type} {d : Kd α} {w : World} {s : Nat} {A : Option Addr} {n : Nat} {xs : List α} (h : Kd.F d w (fun k => k ≠ s) A n xs) (v0 v1 v2 : Value) : Kd.C d (((w.setCell ⟨s, 0, none⟩ v0).setCell ⟨s, 1, none⟩ v1).setCell ⟨s, 2, none⟩ v2) A n xs :=
 h _ (fun k hk _ => ((Below.heap_setCell _ ⟨s, 2, none⟩ v2 k hk).trans (Below.heap_setCell _ ⟨s, 1, none⟩ v1 k hk)).trans (Below.heap_setCell _ ⟨s, 0, none⟩ v0 k hk))
theorem fill3_107 {w : World} {s : Nat} {z0 z1 z2 : Value} (h : w.heap[s]? = some (.cells #[z0, z1, z2] 107 (0, 0))) (v0 v1 v2 : Value) :
  (((w.setCell ⟨s, 0, none⟩ v0).setCell ⟨s, 1, none⟩ v1).setCell ⟨s, 2, none⟩ v2).heap[s]? = some (.cells #[v0, v1, v2] 107 (0, 0)) := by
 have h0 : (w.setCell ⟨s, 0, none⟩ v0).heap[s]? = some (.cells #[v0, z1, z2] 107 (0, 0)) := blk_put h 0 v0 rfl
 have h1 : ((w.setCell ⟨s, 0, none⟩ v0).setCell ⟨s, 1, none⟩ v1).heap[s]? = some (.cells #[v0, v1, z2] 107 (0, 0)) := blk_put h0 1 v1 rfl
 exact blk_put h1 2 v2 rfl
theorem far3 {w : World} {g s : Nat} {t : TypeId} {cs : Array Value} (h : w.heap[g]? = some (.cells cs t (0, 0))) (hn : g ≠ s) (v0 v1 v2 : Value) :
  (((w.setCell ⟨s, 0, none⟩ v0).setCell ⟨s, 1, none⟩ v1).setCell ⟨s, 2, none⟩ v2).heap[g]? = some (.cells cs t (0, 0)) :=
 blk_far (p := ⟨s, 2, none⟩) (blk_far (p := ⟨s, 1, none⟩) (blk_far (p := ⟨s, 0, none⟩) h hn v0) hn v1) hn v2
theorem below3 {w0 w : World} {s : Nat} (h : Below w0.heap.size w0 w) (hs : w0.heap.size ≤ s) (v0 v1 v2 : Value) :
  Below w0.heap.size w0 (((w.setCell ⟨s, 0, none⟩ v0).setCell ⟨s, 1, none⟩ v1).setCell ⟨s, 2, none⟩ v2) := below_set (below_set (below_set h hs) hs) hs
def tripartitelaw10_Some.T3 : Bool × List (List Nat × List Nat) := (true, [([], []), ([0], [0]), ([1], [1]), ([], []), ([3], [3]), ([4], [4]), ([], []), ([6], [6]), ([7], [7]), ([], []), ([9], [9]), ([10], [10]), ([], []), ([12], [12]), ([13], [13]), ([11, 14], [11, 14]), ([], []), ([16], [16]), ([17], [17]), ([], []), ([19], [19]), ([20], [20]), ([18, 21, 15], [18, 21]), ([2, 5, 8, 15, 22, 22], [2, 5, 8, 15, 22]), ([23], [23]), ([24], [24]), ([24], [24]), ([25, 23, 0, 1, 2, 3, 4, 5, 6, 7, 8, 9, 10, 11, 12, 13, 14, 15, 16, 17, 18, 19, 20, 21, 22, 23, 24, 25], [25]), ([26, 27, 0, 1, 2, 3, 4, 5, 6, 7, 8, 9, 10, 11, 12, 13, 14, 15, 16, 17, 18, 19, 20, 21, 22, 23, 24, 25, 26, 27], [26])])
def tripartitelaw10_Some.B3 : List Nat := [0, 1, 3, 0, 8, 24, 0, 64, 192, 0, 512, 1536, 0, 4096, 12288, 32256, 0, 65536, 196608, 0, 524288, 1572864, 4193792, 8388607, 16777215, 33554431, 33554431, 67108863, 268435455]
theorem tripartitelaw10_Some.tab3 : rtab .any (opsOf Try.f71 3) = tripartitelaw10_Some.T3 := by kernel_rfl
theorem tripartitelaw10_Some.bits3 : waitsOk tripartitelaw10_Some.T3.2 tripartitelaw10_Some.B3 = true := by kernel_rfl
set_option maxHeartbeats 8000000 in
set_option maxRecDepth 100000 in
theorem tripartitelaw10_Some.calls (k : Nat) (a0 a1 a2 : ByteArray) (s1 s2 s3 : List ByteArray) (l : List S81) (w : World) (h : tripartitelaw10_Some.f k a0 a1 a2 = some (s1, s2, s3, l)) :
  Calls Try.prog 71 #[.string a0, .string a1, .string a2] w fun e w' => ∃ (A0 A1 A2 A3 : Option Addr) (c0 c1 c2 c3 : Nat), e = .returned (.tuple #[.agg #[.slice A0 s1.length c0, .slice A1 s2.length c1, .slice A2 s3.length c2], .slice A3 l.length c3]) ∧ (Kd.C Kd.string w' A0 s1.length s1 ∧ s1.length ≤ c0) ∧ (Kd.C Kd.string w' A1 s2.length s2 ∧ s2.length ≤ c1) ∧ (Kd.C Kd.string w' A2 s3.length s3 ∧ s3.length ≤ c2) ∧ (Kd.C k81 w' A3 l.length l ∧ l.length ≤ c3) ∧ Below w.heap.size w w' := by
 unfold tripartitelaw10_Some.f at h
 replace h := Option.bind_eq_some_iff.1 h
 obtain ⟨t1, h1, h⟩ := h
 replace h := Option.bind_eq_some_iff.1 h
 obtain ⟨t2, h2, h⟩ := h
 replace h := Option.bind_eq_some_iff.1 h
 obtain ⟨t3, h3, h⟩ := h
 replace h := Option.bind_eq_some_iff.1 h
 obtain ⟨nn, hnn, h⟩ := h
 split at h
 case isFalse => cases h
 rename_i hn3
 replace h := Option.bind_eq_some_iff.1 h
 obtain ⟨p1, hp1, h⟩ := h
 replace h := Option.bind_eq_some_iff.1 h
 obtain ⟨p2, hp2, h⟩ := h
 replace h := Option.bind_eq_some_iff.1 h
 obtain ⟨⟨cs, okr⟩, hof, h⟩ := h
 simp only [Option.some.injEq, Prod.mk.injEq] at h
 obtain ⟨rfl, rfl, rfl, rfl⟩ := h
 have F1 := Aside0.mk h1
 have F2 := Aside0.mk h2
 have F3 := Aside0.mk h3
 have FN := Aside0.mk hnn
 have FP1 := Aside0.mk hp1
 have FP2 := Aside0.mk hp2
 have FO := Aside0.mk hof
 have FL := Aside0.mk hn3
 clear h1 h2 h3 hnn hp1 hp2 hof hn3
 have hu107 := Try.underlying107
 have HB0 := Aside0.mk (Below.refl w.heap.size w)
 go_enter Try.func71, Try.ntmps71
 go_wp2_with (first | ((with_reducible refine gate_dst (N := 6) rfl ?_); refine box_event ?hg (N := 6) ?hd (cs := #[.slice none 0 0, .slice none 0 0, .slice none 0 0]) (t := 107) ?hr ?_; (case hd => rfl); (case hg => rfl); (case hr => first | (go_simp; done) | (go_simp; rfl)); intro f6 hg w1 hbox hb; have B6 := Aside0.mk hbox; have HB := Aside0.mk hb; have GE6 := Aside0.mk (Nat.le_of_eq hg.symm : w.heap.size ≤ f6); clear hg hbox hb HB0))
 refine (tripartiteref01_Split.calls k a0 t1 _ F1.out).mono ?_
 rintro e w2 ⟨v0_, rfl, hR, hb⟩
 obtain ⟨A1, c1, rfl, hc, _⟩ := Kd.R_reads hR
 have hC := away71 rfl hR (blk_lt B6.out)
 have C1 := Aside0.mk hC
 have L1 := Aside0.mk hc
 replace B6 := Aside0.mk (blk_below B6.out hb)
 replace HB := Aside0.mk (below_step HB.out hb)
 clear hR hC hc hb
 go_wp2_with fail
 refine (tripartiteref01_Split.calls k a1 t2 _ F2.out).mono ?_
 rintro e w3 ⟨v0_, rfl, hR, hb⟩
 obtain ⟨A2, c2, rfl, hc, _⟩ := Kd.R_reads hR
 have hC := away71 rfl hR (blk_lt B6.out)
 replace C1 := Aside0.mk (F_on71 C1.out hb)
 have C2 := Aside0.mk hC
 have L2 := Aside0.mk hc
 replace B6 := Aside0.mk (blk_below B6.out hb)
 replace HB := Aside0.mk (below_step HB.out hb)
 clear hR hC hc hb
 go_wp2_with fail
 refine (tripartiteref01_Split.calls k a2 t3 _ F3.out).mono ?_
 rintro e w4 ⟨v0_, rfl, hR, hb⟩
 obtain ⟨A3, c3, rfl, hc, _⟩ := Kd.R_reads hR
 have hC := away71 rfl hR (blk_lt B6.out)
 replace C1 := Aside0.mk (F_on71 C1.out hb)
 replace C2 := Aside0.mk (F_on71 C2.out hb)
 have C3 := Aside0.mk hC
 have L3 := Aside0.mk hc
 replace B6 := Aside0.mk (blk_below B6.out hb)
 replace HB := Aside0.mk (below_step HB.out hb)
 clear hR hC hc hb
 go_wp2_with (first | ((with_reducible refine gate_dst (N := 8) rfl ?_); refine box_event ?hg (N := 8) ?hd (cs := #[.slice none 0 0, .slice none 0 0, .slice none 0 0]) (t := 107) ?hr ?_; (case hd => rfl); (case hg => rfl); (case hr => first | (go_simp; done) | (go_simp; rfl)); intro f8 hg w5 hbox hb; have B8 := Aside0.mk hbox; have GE8 := Aside0.mk ((by rw [hg]; exact below_size HB.out) : w.heap.size ≤ f8); have NE68 := Aside0.mk ((by rw [hg]; exact Nat.ne_of_lt (blk_lt B6.out)) : f6 ≠ f8); replace B6 := Aside0.mk (blk_below B6.out hb); replace HB := Aside0.mk (below_step HB.out hb); have HB45 := Aside0.mk hb; have GE45 := Aside0.mk (Nat.le_of_eq hg.symm : w4.heap.size ≤ f8); have y0 := (blk_cell hbox 0).trans (show _ = some (Value.slice none 0 0) from rfl); have y1 := (blk_cell hbox 1).trans (show _ = some (Value.slice none 0 0) from rfl); have y2 := (blk_cell hbox 2).trans (show _ = some (Value.slice none 0 0) from rfl); have x0 := blk_frozen hbox 0; have x1 := blk_frozen hbox 1; have x2 := blk_frozen hbox 2; clear hg hbox hb))
 have B8' := Aside0.mk (fill3_107 B8.out (.slice A1 t1.length c1) (.slice A2 t2.length c2) (.slice A3 t3.length c3))
 have B6' := Aside0.mk (far3 B6.out NE68.out (.slice A1 t1.length c1) (.slice A2 t2.length c2) (.slice A3 t3.length c3))
 have HB' := Aside0.mk (below3 HB.out GE8.out (.slice A1 t1.length c1) (.slice A2 t2.length c2) (.slice A3 t3.length c3))
 replace C1 := Aside0.mk (F_on71 C1.out (below3 HB45.out GE45.out (.slice A1 t1.length c1) (.slice A2 t2.length c2) (.slice A3 t3.length c3)))
 replace C2 := Aside0.mk (F_on71 C2.out (below3 HB45.out GE45.out (.slice A1 t1.length c1) (.slice A2 t2.length c2) (.slice A3 t3.length c3)))
 replace C3 := Aside0.mk (F_on71 C3.out (below3 HB45.out GE45.out (.slice A1 t1.length c1) (.slice A2 t2.length c2) (.slice A3 t3.length c3)))
 clear y0 y1 y2 x0 x1 x2 B8 B6 HB HB45 GE45
 have hs6 : (((w5.setCell ⟨f8, 0, none⟩ (.slice A1 t1.length c1)).setCell ⟨f8, 1, none⟩ (.slice A2 t2.length c2)).setCell ⟨f8, 2, none⟩ (.slice A3 t3.length c3)).heap.size = w5.heap.size := by simp only [size_set71]
 rw [← hs6]
 clear hs6
 generalize (((w5.setCell ⟨f8, 0, none⟩ (.slice A1 t1.length c1)).setCell ⟨f8, 1, none⟩ (.slice A2 t2.length c2)).setCell ⟨f8, 2, none⟩ (.slice A3 t3.length c3)) = w6 at B8' B6' HB' C1 C2 C3 ⊢
 have HLL : Aside0 (Kd.C (Kd.slice 9 Kd.string) (w6.alloc (.cells #[.slice A1 t1.length c1, .slice A2 t2.length c2, .slice A3 t3.length c3] 27 (0, 0))) (some ⟨w6.heap.size, 0, none⟩) [t1, t2, t3].length [t1, t2, t3]) := ⟨C_lit (Kd.slice 9 Kd.string) rfl w6 27 [t1, t2, t3] [.slice A1 t1.length c1, .slice A2 t2.length c2, .slice A3 t3.length c3] rfl (by simp) (fun j p u hp hu => by
  match j, hp, hu with
  | 0, hp, hu => cases hp; cases hu; exact ⟨A1, c1, rfl, L1.out, Kd.F_now C1.out⟩
  | 1, hp, hu => cases hp; cases hu; exact ⟨A2, c2, rfl, L2.out, Kd.F_now C2.out⟩
  | 2, hp, hu => cases hp; cases hu; exact ⟨A3, c3, rfl, L3.out, Kd.F_now C3.out⟩
  | (j + 3), hp, hu => simp at hp)⟩
 refine (tripartiteref01_Number.calls k (some ⟨w6.heap.size, 0, none⟩) 3 [t1, t2, t3] nn _ HLL.out (Nat.le_refl _) FN.out).mono ?_
 rintro e w7 ⟨v0_, rfl, hR, hb0⟩
 have hb := below_then (below_alloc (Below.refl w6.heap.size w6) (.cells #[.slice A1 t1.length c1, .slice A2 t2.length c2, .slice A3 t3.length c3] 27 (0, 0))) (below_alloc (Below.refl w6.heap.size w6) _).size hb0
 replace C1 := Aside0.mk (F_on71 C1.out hb)
 replace C2 := Aside0.mk (F_on71 C2.out hb)
 replace C3 := Aside0.mk (F_on71 C3.out hb)
 have B8 := Aside0.mk (blk_below B8'.out hb)
 have B6 := Aside0.mk (blk_below B6'.out hb)
 have HB := Aside0.mk (below_step HB'.out hb)
 clear B8' B6' HB' HLL hb hb0
 obtain ⟨A, c, rfl, hc, hC⟩ := Kd.R_reads (Kd.S_R hR)
 clear hR
 obtain ⟨ad0, AX, cX, e0, hx, hlx, hcx⟩ := at_L6 hC (0 : Int) (by decide) (by have := FL.out; omega)
 cases e0
 obtain ⟨ad1, AY, cY, e1, hy, hly, hcy⟩ := at_L6 hC (1 : Int) (by decide) (by have := FL.out; omega)
 cases e1
 obtain ⟨ad2, AZ, cZ, e2, hz, hlz, hcz⟩ := at_L6 hC (2 : Int) (by decide) (by have := FL.out; omega)
 cases e2
 simp only [Int.toNat_zero, Int.toNat_one, show Int.toNat 2 = 2 from rfl] at hx hy hz
 have hp1 := FP1.out
 have hp2 := FP2.out
 generalize rd_L6 nn 0 = x at hx hlx hcx hp1 hp2
 have KX := Aside0.mk hcx
 have MX := Aside0.mk hlx
 generalize rd_L6 nn 1 = y at hy hly hcy hp1 hp2
 have KY := Aside0.mk hcy
 have MY := Aside0.mk hly
 generalize rd_L6 nn 2 = z at hz hlz hcz hp1 hp2
 have KZ := Aside0.mk hcz
 have MZ := Aside0.mk hlz
 replace hx : w7.cell? ad0 = some (.slice AX x.length cX) := by simpa [Addr.add] using hx
 replace hy : w7.cell? ⟨ad0.block, ad0.off + 1, none⟩ = some (.slice AY y.length cY) := by simpa [Addr.add] using hy
 replace hz : w7.cell? ⟨ad0.block, ad0.off + 2, none⟩ = some (.slice AZ z.length cZ) := by simpa [Addr.add] using hz
 have G1 := Aside0.mk hp1
 have G2 := Aside0.mk hp2
 clear hp1 hp2 hcx hcy hcz hlx hly hlz hC hc FP1 FP2 FN
 have hn3 := FL.out
 rw [hn3]
 clear hn3
 have q0 := (blk_cell B8.out 0).trans (show _ = some (Value.slice A1 t1.length c1) from rfl)
 have q1 := (blk_cell B8.out 1).trans (show _ = some (Value.slice A2 t2.length c2) from rfl)
 have q2 := (blk_cell B8.out 2).trans (show _ = some (Value.slice A3 t3.length c3) from rfl)
 go_wp2_with fail
 refine start_ (n := 29) (S := fun w' => w'.cell? ⟨f8, 0, none⟩ = some (.slice A1 t1.length c1) ∧ w'.cell? ⟨f8, 1, none⟩ = some (.slice A2 t2.length c2) ∧ w'.cell? ⟨f8, 2, none⟩ = some (.slice A3 t3.length c3) ∧ w'.cell? ad0 = some (.slice AX x.length cX) ∧ w'.cell? ⟨ad0.block, ad0.off + 1, none⟩ = some (.slice AY y.length cY) ∧ w'.cell? ⟨ad0.block, ad0.off + 2, none⟩ = some (.slice AZ z.length cZ)) (ds := []) #[false, false, false, false, false, false, false, false, false, false, false, false, false, false, false, false, false, false, false, false, false, false, false, false, false, false, false, false, false] (by kernel_rfl) rfl rfl ⟨q0, q1, q2, hx, hy, hz⟩ (fun hHeld => ?_); refine with_tabW tripartitelaw10_Some.tab3 tripartitelaw10_Some.bits3 (fun HT_ HW_ => ?_)
 replace C1 := Aside0.mk (Kd.F_drew C1.out)
 replace C2 := Aside0.mk (Kd.F_drew C2.out)
 replace C3 := Aside0.mk (Kd.F_drew C3.out)
 replace KX := Aside0.mk (Kd.C_drew KX.out)
 replace KY := Aside0.mk (Kd.C_drew KY.out)
 replace KZ := Aside0.mk (Kd.C_drew KZ.out)
 replace B8 := Aside0.mk (blk_drew B8.out)
 replace B6 := Aside0.mk (blk_drew B6.out)
 replace HB := Aside0.mk (below_drew1 HB.out)
 clear q0 q1 q2 hx hy hz
 generalize w7.drew = wd at C1 C2 C3 KX KY KZ B8 B6 HB hHeld ⊢
 refine pure_ (i := 0) (N := some 28) (v := ?_) (a' := ?_) #[true, false, false, false, false, false, false, false, false, false, false, false, false, false, false, false, false, false, false, false, false, false, false, false, false, false, false, false, false] rfl rfl (any_of HT_.out (by kernel_rfl)) (fun _ _ _ h => h) (Or.inl ⟨by rfl, ?_⟩) ?_ ?_
 rotate_left
 ·intro w'
  go_simp
  with_reducible rfl
 rotate_left
 ·simp only [Act.put, List.setIfInBounds_toArray, List.set_cons_zero, List.set_cons_succ, i64_w, i32_w]
  rfl
 refine take_ (i := 1) (N := some 29) (v := ?_) (a' := ?_) #[true, true, false, false, false, false, false, false, false, false, false, false, false, false, false, false, false, false, false, false, false, false, false, false, false, false, false, false, false] rfl rfl (take_ofW HT_.out HW_.out (by kernel_rfl)) (fun _ _ _ h => h) (Or.inl ⟨by rfl, ?_⟩) hHeld ?_ ?_
 rotate_left
 ·rintro w' ⟨s0, s1, s2, s3, s4, s5⟩
  go_simp
  with_reducible rfl
 rotate_left
 ·simp only [Act.put, List.setIfInBounds_toArray, List.set_cons_zero, List.set_cons_succ, i64_w, i32_w]
  rfl
 refine pure_ (i := 2) (N := some 30) (v := ?_) (a' := ?_) #[true, true, true, false, false, false, false, false, false, false, false, false, false, false, false, false, false, false, false, false, false, false, false, false, false, false, false, false, false] rfl rfl (any_of HT_.out (by kernel_rfl)) (fun _ _ _ h => h) (Or.inl ⟨by rfl, ?_⟩) ?_ ?_
 rotate_left
 ·intro w'
  go_simp
  with_reducible rfl
 rotate_left
 ·simp only [Act.put, List.setIfInBounds_toArray, List.set_cons_zero, List.set_cons_succ, i64_w, i32_w]
  rfl
 refine pure_ (i := 3) (N := some 31) (v := ?_) (a' := ?_) #[true, true, true, true, false, false, false, false, false, false, false, false, false, false, false, false, false, false, false, false, false, false, false, false, false, false, false, false, false] rfl rfl (any_of HT_.out (by kernel_rfl)) (fun _ _ _ h => h) (Or.inl ⟨by rfl, ?_⟩) ?_ ?_
 rotate_left
 ·intro w'
  go_simp
  with_reducible rfl
 rotate_left
 ·simp only [Act.put, List.setIfInBounds_toArray, List.set_cons_zero, List.set_cons_succ, i64_w, i32_w]
  rfl
 refine take_ (i := 4) (N := some 32) (v := ?_) (a' := ?_) #[true, true, true, true, true, false, false, false, false, false, false, false, false, false, false, false, false, false, false, false, false, false, false, false, false, false, false, false, false] rfl rfl (take_ofW HT_.out HW_.out (by kernel_rfl)) (fun _ _ _ h => h) (Or.inl ⟨by rfl, ?_⟩) hHeld ?_ ?_
 rotate_left
 ·rintro w' ⟨s0, s1, s2, s3, s4, s5⟩
  go_simp
  with_reducible rfl
 rotate_left
 ·simp only [Act.put, List.setIfInBounds_toArray, List.set_cons_zero, List.set_cons_succ, i64_w, i32_w]
  rfl
 refine pure_ (i := 5) (N := some 33) (v := ?_) (a' := ?_) #[true, true, true, true, true, true, false, false, false, false, false, false, false, false, false, false, false, false, false, false, false, false, false, false, false, false, false, false, false] rfl rfl (any_of HT_.out (by kernel_rfl)) (fun _ _ _ h => h) (Or.inl ⟨by rfl, ?_⟩) ?_ ?_
 rotate_left
 ·intro w'
  go_simp
  with_reducible rfl
 rotate_left
 ·simp only [Act.put, List.setIfInBounds_toArray, List.set_cons_zero, List.set_cons_succ, i64_w, i32_w]
  rfl
 refine pure_ (i := 6) (N := some 34) (v := ?_) (a' := ?_) #[true, true, true, true, true, true, true, false, false, false, false, false, false, false, false, false, false, false, false, false, false, false, false, false, false, false, false, false, false] rfl rfl (any_of HT_.out (by kernel_rfl)) (fun _ _ _ h => h) (Or.inl ⟨by rfl, ?_⟩) ?_ ?_
 rotate_left
 ·intro w'
  go_simp
  with_reducible rfl
 rotate_left
 ·simp only [Act.put, List.setIfInBounds_toArray, List.set_cons_zero, List.set_cons_succ, i64_w, i32_w]
  rfl
 refine take_ (i := 7) (N := some 35) (v := ?_) (a' := ?_) #[true, true, true, true, true, true, true, true, false, false, false, false, false, false, false, false, false, false, false, false, false, false, false, false, false, false, false, false, false] rfl rfl (take_ofW HT_.out HW_.out (by kernel_rfl)) (fun _ _ _ h => h) (Or.inl ⟨by rfl, ?_⟩) hHeld ?_ ?_
 rotate_left
 ·rintro w' ⟨s0, s1, s2, s3, s4, s5⟩
  go_simp
  with_reducible rfl
 rotate_left
 ·simp only [Act.put, List.setIfInBounds_toArray, List.set_cons_zero, List.set_cons_succ, i64_w, i32_w]
  rfl
 refine pure_ (i := 8) (N := some 36) (v := ?_) (a' := ?_) #[true, true, true, true, true, true, true, true, true, false, false, false, false, false, false, false, false, false, false, false, false, false, false, false, false, false, false, false, false] rfl rfl (any_of HT_.out (by kernel_rfl)) (fun _ _ _ h => h) (Or.inl ⟨by rfl, ?_⟩) ?_ ?_
 rotate_left
 ·intro w'
  go_simp
  with_reducible rfl
 rotate_left
 ·simp only [Act.put, List.setIfInBounds_toArray, List.set_cons_zero, List.set_cons_succ, i64_w, i32_w]
  rfl
 refine pure_ (i := 9) (N := some 37) (v := ?_) (a' := ?_) #[true, true, true, true, true, true, true, true, true, true, false, false, false, false, false, false, false, false, false, false, false, false, false, false, false, false, false, false, false] rfl rfl (any_of HT_.out (by kernel_rfl)) (fun _ _ _ h => h) (Or.inl ⟨by rfl, ?_⟩) ?_ ?_
 rotate_left
 ·intro w'
  go_simp
  with_reducible rfl
 rotate_left
 ·simp only [Act.put, List.setIfInBounds_toArray, List.set_cons_zero, List.set_cons_succ, i64_w, i32_w]
  rfl
 refine pure_ (i := 10) (N := some 38) (v := ?_) (a' := ?_) #[true, true, true, true, true, true, true, true, true, true, true, false, false, false, false, false, false, false, false, false, false, false, false, false, false, false, false, false, false] rfl rfl (any_of HT_.out (by kernel_rfl)) (fun _ _ _ h => h) (Or.inl ⟨by rfl, ?_⟩) ?_ ?_
 rotate_left
 ·intro w'
  go_simp
  with_reducible rfl
 rotate_left
 ·simp only [Act.put, List.setIfInBounds_toArray, List.set_cons_zero, List.set_cons_succ, i64_w, i32_w]
  rfl
 refine take_ (i := 11) (N := some 39) (v := ?_) (a' := ?_) #[true, true, true, true, true, true, true, true, true, true, true, true, false, false, false, false, false, false, false, false, false, false, false, false, false, false, false, false, false] rfl rfl (take_ofW HT_.out HW_.out (by kernel_rfl)) (fun _ _ _ h => h) (Or.inl ⟨by rfl, ?_⟩) hHeld ?_ ?_
 rotate_left
 ·rintro w' ⟨s0, s1, s2, s3, s4, s5⟩
  go_simp
  with_reducible rfl
 rotate_left
 ·simp only [Act.put, List.setIfInBounds_toArray, List.set_cons_zero, List.set_cons_succ, i64_w, i32_w]
  rfl
 refine pure_ (i := 12) (N := some 40) (v := ?_) (a' := ?_) #[true, true, true, true, true, true, true, true, true, true, true, true, true, false, false, false, false, false, false, false, false, false, false, false, false, false, false, false, false] rfl rfl (any_of HT_.out (by kernel_rfl)) (fun _ _ _ h => h) (Or.inl ⟨by rfl, ?_⟩) ?_ ?_
 rotate_left
 ·intro w'
  go_simp
  with_reducible rfl
 rotate_left
 ·simp only [Act.put, List.setIfInBounds_toArray, List.set_cons_zero, List.set_cons_succ, i64_w, i32_w]
  rfl
 refine pure_ (i := 13) (N := some 41) (v := ?_) (a' := ?_) #[true, true, true, true, true, true, true, true, true, true, true, true, true, true, false, false, false, false, false, false, false, false, false, false, false, false, false, false, false] rfl rfl (any_of HT_.out (by kernel_rfl)) (fun _ _ _ h => h) (Or.inl ⟨by rfl, ?_⟩) ?_ ?_
 rotate_left
 ·intro w'
  go_simp
  with_reducible rfl
 rotate_left
 ·simp only [Act.put, List.setIfInBounds_toArray, List.set_cons_zero, List.set_cons_succ, i64_w, i32_w]
  rfl
 refine take_ (i := 14) (N := some 42) (v := ?_) (a' := ?_) #[true, true, true, true, true, true, true, true, true, true, true, true, true, true, true, false, false, false, false, false, false, false, false, false, false, false, false, false, false] rfl rfl (take_ofW HT_.out HW_.out (by kernel_rfl)) (fun _ _ _ h => h) (Or.inl ⟨by rfl, ?_⟩) hHeld ?_ ?_
 rotate_left
 ·rintro w' ⟨s0, s1, s2, s3, s4, s5⟩
  go_simp
  with_reducible rfl
 rotate_left
 ·simp only [Act.put, List.setIfInBounds_toArray, List.set_cons_zero, List.set_cons_succ, i64_w, i32_w]
  rfl
 refine pure_ (i := 16) (N := some 44) (v := ?_) (a' := ?_) #[true, true, true, true, true, true, true, true, true, true, true, true, true, true, true, false, true, false, false, false, false, false, false, false, false, false, false, false, false] rfl rfl (any_of HT_.out (by kernel_rfl)) (fun _ _ _ h => h) (Or.inl ⟨by rfl, ?_⟩) ?_ ?_
 rotate_left
 ·intro w'
  go_simp
  with_reducible rfl
 rotate_left
 ·simp only [Act.put, List.setIfInBounds_toArray, List.set_cons_zero, List.set_cons_succ, i64_w, i32_w]
  rfl
 refine pure_ (i := 17) (N := some 45) (v := ?_) (a' := ?_) #[true, true, true, true, true, true, true, true, true, true, true, true, true, true, true, false, true, true, false, false, false, false, false, false, false, false, false, false, false] rfl rfl (any_of HT_.out (by kernel_rfl)) (fun _ _ _ h => h) (Or.inl ⟨by rfl, ?_⟩) ?_ ?_
 rotate_left
 ·intro w'
  go_simp
  with_reducible rfl
 rotate_left
 ·simp only [Act.put, List.setIfInBounds_toArray, List.set_cons_zero, List.set_cons_succ, i64_w, i32_w]
  rfl
 refine take_ (i := 18) (N := some 46) (v := ?_) (a' := ?_) #[true, true, true, true, true, true, true, true, true, true, true, true, true, true, true, false, true, true, true, false, false, false, false, false, false, false, false, false, false] rfl rfl (take_ofW HT_.out HW_.out (by kernel_rfl)) (fun _ _ _ h => h) (Or.inl ⟨by rfl, ?_⟩) hHeld ?_ ?_
 rotate_left
 ·rintro w' ⟨s0, s1, s2, s3, s4, s5⟩
  go_simp
  with_reducible rfl
 rotate_left
 ·simp only [Act.put, List.setIfInBounds_toArray, List.set_cons_zero, List.set_cons_succ, i64_w, i32_w]
  rfl
 refine pure_ (i := 19) (N := some 47) (v := ?_) (a' := ?_) #[true, true, true, true, true, true, true, true, true, true, true, true, true, true, true, false, true, true, true, true, false, false, false, false, false, false, false, false, false] rfl rfl (any_of HT_.out (by kernel_rfl)) (fun _ _ _ h => h) (Or.inl ⟨by rfl, ?_⟩) ?_ ?_
 rotate_left
 ·intro w'
  go_simp
  with_reducible rfl
 rotate_left
 ·simp only [Act.put, List.setIfInBounds_toArray, List.set_cons_zero, List.set_cons_succ, i64_w, i32_w]
  rfl
 refine pure_ (i := 20) (N := some 48) (v := ?_) (a' := ?_) #[true, true, true, true, true, true, true, true, true, true, true, true, true, true, true, false, true, true, true, true, true, false, false, false, false, false, false, false, false] rfl rfl (any_of HT_.out (by kernel_rfl)) (fun _ _ _ h => h) (Or.inl ⟨by rfl, ?_⟩) ?_ ?_
 rotate_left
 ·intro w'
  go_simp
  with_reducible rfl
 rotate_left
 ·simp only [Act.put, List.setIfInBounds_toArray, List.set_cons_zero, List.set_cons_succ, i64_w, i32_w]
  rfl
 refine take_ (i := 21) (N := some 49) (v := ?_) (a' := ?_) #[true, true, true, true, true, true, true, true, true, true, true, true, true, true, true, false, true, true, true, true, true, true, false, false, false, false, false, false, false] rfl rfl (take_ofW HT_.out HW_.out (by kernel_rfl)) (fun _ _ _ h => h) (Or.inl ⟨by rfl, ?_⟩) hHeld ?_ ?_
 rotate_left
 ·rintro w' ⟨s0, s1, s2, s3, s4, s5⟩
  go_simp
  with_reducible rfl
 rotate_left
 ·simp only [Act.put, List.setIfInBounds_toArray, List.set_cons_zero, List.set_cons_succ, i64_w, i32_w]
  rfl
 refine one_ (i := 15) (N := some 43) #[true, true, true, true, true, true, true, true, true, true, true, true, true, true, true, true, true, true, true, true, true, true, false, false, false, false, false, false, false] rfl rfl (one_of HT_.out (by kernel_rfl)) (by decide) (fun K hK => ?_)
 refine goes_ Try.func118 (by kernel_rfl) rfl #[.slice AX x.length cX, .slice AY y.length cY] (by rfl) rfl rfl (by (try simp only [List.map_toArray, List.map_cons, List.map_nil]); first | done | rfl) ?_
 refine (tripartiteref03_Some.calls k (fun k => k < _) AX cX x (fun k => k < _) AY cY y p1 _ (Kd.V_mk MX.out (Kd.C_F (Kd.heap_int .i64) KX.out)) (Kd.V_mk MY.out (Kd.C_F (Kd.heap_int .i64) KY.out)) G1.out).mono ?_
 rintro e w8 ⟨v0_, rfl, hR, hb⟩
 obtain ⟨P1, d1, rfl, hc, hC⟩ := Kd.R_reads hR
 replace C1 := Aside0.mk (F_on71 C1.out hb)
 replace C2 := Aside0.mk (F_on71 C2.out hb)
 replace C3 := Aside0.mk (F_on71 C3.out hb)
 replace KX := Aside0.mk (Kd.C_below KX.out hb)
 replace KY := Aside0.mk (Kd.C_below KY.out hb)
 replace KZ := Aside0.mk (Kd.C_below KZ.out hb)
 replace B8 := Aside0.mk (blk_below B8.out hb)
 replace B6 := Aside0.mk (blk_below B6.out hb)
 replace HB := Aside0.mk (below_step HB.out hb)
 have CP := Aside0.mk hC
 have LP := Aside0.mk hc
 refine ⟨_, rfl, ?_⟩
 refine hK.out _ _ (hold6_71 hb hHeld) (fun hHeld => ?_)
 clear hb hR hc hC
 clear hK K
 refine norm_ (a' := ?_) ?_ ?_
 rotate_left
 ·show Act.put _ (some 43) _ = _
  simp only [Act.put, List.setIfInBounds_toArray, List.set_cons_zero, List.set_cons_succ, i64_w, i32_w]
  rfl
 refine one_ (i := 22) (N := some 50) #[true, true, true, true, true, true, true, true, true, true, true, true, true, true, true, true, true, true, true, true, true, true, true, false, false, false, false, false, false] rfl rfl (one_of HT_.out (by kernel_rfl)) (by decide) (fun K hK => ?_)
 refine goes_ Try.func118 (by kernel_rfl) rfl #[.slice AX x.length cX, .slice AZ z.length cZ] (by rfl) rfl rfl (by (try simp only [List.map_toArray, List.map_cons, List.map_nil]); first | done | rfl) ?_
 refine (tripartiteref03_Some.calls k (fun k => k < _) AX cX x (fun k => k < _) AZ cZ z p2 _ (Kd.V_mk MX.out (Kd.C_F (Kd.heap_int .i64) KX.out)) (Kd.V_mk MZ.out (Kd.C_F (Kd.heap_int .i64) KZ.out)) G2.out).mono ?_
 rintro e w9 ⟨v0_, rfl, hR, hb⟩
 obtain ⟨P2, d2, rfl, hc, hC⟩ := Kd.R_reads hR
 replace C1 := Aside0.mk (F_on71 C1.out hb)
 replace C2 := Aside0.mk (F_on71 C2.out hb)
 replace C3 := Aside0.mk (F_on71 C3.out hb)
 replace KX := Aside0.mk (Kd.C_below KX.out hb)
 replace KY := Aside0.mk (Kd.C_below KY.out hb)
 replace KZ := Aside0.mk (Kd.C_below KZ.out hb)
 replace CP := Aside0.mk (Kd.C_below CP.out hb)
 replace B8 := Aside0.mk (blk_below B8.out hb)
 replace B6 := Aside0.mk (blk_below B6.out hb)
 replace HB := Aside0.mk (below_step HB.out hb)
 have CQ := Aside0.mk hC
 have LQ := Aside0.mk hc
 refine ⟨_, rfl, ?_⟩
 refine hK.out _ _ (hold6_71 hb hHeld) (fun hHeld => ?_)
 clear hb hR hc hC
 clear hK K
 refine norm_ (a' := ?_) ?_ ?_
 rotate_left
 ·show Act.put _ (some 50) _ = _
  simp only [Act.put, List.setIfInBounds_toArray, List.set_cons_zero, List.set_cons_succ, i64_w, i32_w]
  rfl
 refine one_ (i := 23) (N := some 51) #[true, true, true, true, true, true, true, true, true, true, true, true, true, true, true, true, true, true, true, true, true, true, true, true, false, false, false, false, false] rfl rfl (one_of HT_.out (by kernel_rfl)) (by decide) (fun K hK => ?_)
 refine goes_ Try.func50 (by kernel_rfl) rfl #[.int .i64 (t1.length : Int), .int .i64 (t2.length : Int), .int .i64 (t3.length : Int), .slice P1 p1.length d1, .slice P2 p2.length d2] (by rfl) rfl rfl (by (try simp only [List.map_toArray, List.map_cons, List.map_nil]); first | done | rfl) ?_
 refine (tripartiteref06_Of.calls k (t1.length : Int) (t2.length : Int) (t3.length : Int) P1 d1 p1 P2 d2 p2 cs okr _ CP.out LP.out CQ.out LQ.out FO.out).mono ?_
 rintro e wz ⟨v0_, rfl, hR, hb⟩
 obtain ⟨P3, d3, rfl, hc, hC⟩ := Kd.R_reads hR
 have CRF := Aside0.mk (away71 rfl hR (blk_lt B6.out))
 replace C1 := Aside0.mk (F_on71 C1.out hb)
 replace C2 := Aside0.mk (F_on71 C2.out hb)
 replace C3 := Aside0.mk (F_on71 C3.out hb)
 replace KX := Aside0.mk (Kd.C_below KX.out hb)
 replace KY := Aside0.mk (Kd.C_below KY.out hb)
 replace KZ := Aside0.mk (Kd.C_below KZ.out hb)
 replace CP := Aside0.mk (Kd.C_below CP.out hb)
 replace CQ := Aside0.mk (Kd.C_below CQ.out hb)
 replace B8 := Aside0.mk (blk_below B8.out hb)
 replace B6 := Aside0.mk (blk_below B6.out hb)
 replace HB := Aside0.mk (below_step HB.out hb)
 have CR := Aside0.mk hC
 have LR := Aside0.mk hc
 refine ⟨_, rfl, ?_⟩
 refine hK.out _ _ (hold6_71 hb hHeld) (fun hHeld => ?_)
 clear hb hR hc hC
 clear hK K
 refine norm_ (a' := ?_) ?_ ?_
 rotate_left
 ·show Act.put _ (some 51) _ = _
  simp only [Act.put, List.setIfInBounds_toArray, List.set_cons_zero, List.set_cons_succ, i64_w, i32_w]
  rfl
 refine pure_ (i := 24) (N := some 27) (v := ?_) (a' := ?_) #[true, true, true, true, true, true, true, true, true, true, true, true, true, true, true, true, true, true, true, true, true, true, true, true, true, false, false, false, false] rfl rfl (any_of HT_.out (by kernel_rfl)) (fun _ _ _ h => h) (Or.inl ⟨by rfl, ?_⟩) ?_ ?_
 rotate_left
 ·intro w'
  go_simp
  with_reducible rfl
 rotate_left
 ·simp only [Act.put, List.setIfInBounds_toArray, List.set_cons_zero, List.set_cons_succ, i64_w, i32_w]
  rfl
 refine pure_ (i := 25) (N := some 52) (v := ?_) (a' := ?_) #[true, true, true, true, true, true, true, true, true, true, true, true, true, true, true, true, true, true, true, true, true, true, true, true, true, true, false, false, false] rfl rfl (any_of HT_.out (by kernel_rfl)) (fun _ _ _ h => h) (Or.inl ⟨by rfl, ?_⟩) ?_ ?_
 rotate_left
 ·intro w'
  go_simp
  with_reducible rfl
 rotate_left
 ·simp only [Act.put, List.setIfInBounds_toArray, List.set_cons_zero, List.set_cons_succ, i64_w, i32_w]
  rfl
 refine pure_ (i := 26) (N := some 53) (v := ?_) (a' := ?_) #[true, true, true, true, true, true, true, true, true, true, true, true, true, true, true, true, true, true, true, true, true, true, true, true, true, true, true, false, false] rfl rfl (any_of HT_.out (by kernel_rfl)) (fun _ _ _ h => h) (Or.inl ⟨by rfl, ?_⟩) ?_ ?_
 rotate_left
 ·intro w'
  go_simp
  with_reducible rfl
 rotate_left
 ·simp only [Act.put, List.setIfInBounds_toArray, List.set_cons_zero, List.set_cons_succ, i64_w, i32_w]
  rfl
 refine pure_ (i := 27) (N := some 10) (v := ?_) (a' := ?_) #[true, true, true, true, true, true, true, true, true, true, true, true, true, true, true, true, true, true, true, true, true, true, true, true, true, true, true, true, false] rfl rfl (any_of HT_.out (by kernel_rfl)) (fun _ _ _ h => h) (Or.inl ⟨by rfl, ?_⟩) ?_ ?_
 rotate_left
 ·intro w'
  go_simp
  with_reducible rfl
 rotate_left
 ·simp only [Act.put, List.setIfInBounds_toArray, List.set_cons_zero, List.set_cons_succ, i64_w, i32_w]
  rfl
 refine pure_ (i := 28) (N := some 11) (v := ?_) (a' := ?_) #[true, true, true, true, true, true, true, true, true, true, true, true, true, true, true, true, true, true, true, true, true, true, true, true, true, true, true, true, true] rfl rfl (any_of HT_.out (by kernel_rfl)) (fun _ _ _ h => h) (Or.inl ⟨by rfl, ?_⟩) ?_ ?_
 rotate_left
 ·intro w'
  go_simp
  with_reducible rfl
 rotate_left
 ·simp only [Act.put, List.setIfInBounds_toArray, List.set_cons_zero, List.set_cons_succ, i64_w, i32_w]
  rfl
 refine done_ (done_of HT_.out (by kernel_rfl)) ?_
 clear hHeld
 have q0 := (blk_cell B8.out 0).trans (show _ = some (Value.slice A1 t1.length c1) from rfl)
 have q1 := (blk_cell B8.out 1).trans (show _ = some (Value.slice A2 t2.length c2) from rfl)
 have q2 := (blk_cell B8.out 2).trans (show _ = some (Value.slice A3 t3.length c3) from rfl)
 have y0 := (blk_cell B6.out 0).trans (show _ = some (Value.slice none 0 0) from rfl)
 have y1 := (blk_cell B6.out 1).trans (show _ = some (Value.slice none 0 0) from rfl)
 have y2 := (blk_cell B6.out 2).trans (show _ = some (Value.slice none 0 0) from rfl)
 have x0 := blk_frozen B6.out 0
 have x1 := blk_frozen B6.out 1
 have x2 := blk_frozen B6.out 2
 go_wp2_with fail
 refine bodyPost_ret (results_ct rfl _ _ f6 107 _ (0, 0) _ rfl (fill3_107 B6.out (.slice A1 t1.length c1) (.slice A2 t2.length c2) (.slice A3 t3.length c3)) hu107 rfl (by kernel_rfl)) rfl ?_
 exact ⟨A1, A2, A3, P3, c1, c2, c3, d3, rfl, ⟨F_set3 C1.out _ _ _, L1.out⟩, ⟨F_set3 C2.out _ _ _, L2.out⟩, ⟨F_set3 C3.out _ _ _, L3.out⟩, ⟨F_set3 CRF.out _ _ _, LR.out⟩, below3 HB.out GE6.out _ _ _⟩
end Go.Proofs.Ytadafplbgophfaa.PA
end
section
namespace Go.Proofs.Ytadafplbgophfaa.PA
open Go.RowKit Go.Proofs.YtadafplbgophfaaW.PrintWords Go.Proofs.YtadafplbgophfaaW.PrintLast Go.Proofs.YtadafplbgophfaaW.PrintMore
attribute [local go_sem] max2_int min2_int max_two min_two max_three min_three max_four min_four   -- for this text's walks alone
set_option linter.unusedVariables false
set_option linter.unusedSimpArgs false
mutual
def trim_Ends_string.j1 : Nat → List ByteArray → List ByteArray → Int → Option (Int × Int)
 | 0, _, _, _ => none
 | k + 1, x0, x1, x6 => if 0 ≤ x6 then (if x6 ≤ (x0.length : Int) then (if x6 ≤ (x1.length : Int) then (trim_Ends_string.l1 k (x0.drop (x6 : Int).toNat) (x1.drop (x6 : Int).toNat) x6 0) else (none)) else (none)) else (none)
def trim_Ends_string.l1 : Nat → List ByteArray → List ByteArray → Int → Int → Option (Int × Int)
 | 0, _, _, _, _ => none
 | k + 1, x0, x1, x6, x7 => if x7 < (mn (x0.length : Int) (x1.length : Int)) then (if 0 ≤ (wrap64 ((wrap64 ((x0.length : Int) - 1)) - x7)) then (if (wrap64 ((wrap64 ((x0.length : Int) - 1)) - x7)) < (x0.length : Int) then (if 0 ≤ (wrap64 ((wrap64 ((x1.length : Int) - 1)) - x7)) then (if (wrap64 ((wrap64 ((x1.length : Int) - 1)) - x7)) < (x1.length : Int) then (if (rdOf ByteArray.empty x0 (wrap64 ((wrap64 ((x0.length : Int) - 1)) - x7))).toList = (rdOf ByteArray.empty x1 (wrap64 ((wrap64 ((x1.length : Int) - 1)) - x7))).toList then (trim_Ends_string.l1 k x0 x1 x6 (wrap64 (x7 + 1))) else (some (x6, x7))) else (none)) else (none)) else (none)) else (none)) else (some (x6, x7))
def trim_Ends_string.l0 : Nat → List ByteArray → List ByteArray → Int → Option (Int × Int)
 | 0, _, _, _ => none
 | k + 1, x0, x1, x6 => if x6 < (mn (x0.length : Int) (x1.length : Int)) then (if 0 ≤ x6 then (if x6 < (x0.length : Int) then (if x6 < (x1.length : Int) then (if (rdOf ByteArray.empty x0 x6).toList = (rdOf ByteArray.empty x1 x6).toList then (trim_Ends_string.l0 k x0 x1 (wrap64 (x6 + 1))) else (trim_Ends_string.j1 k x0 x1 x6)) else (none)) else (none)) else (none)) else (trim_Ends_string.j1 k x0 x1 x6)
end
def trim_Ends_string.f (k : Nat) (l0 : List ByteArray) (l1 : List ByteArray) : Option (Int × Int) := trim_Ends_string.l0 k l0 l1 0
theorem trim_Ends_string.mono_l : ∀ k, (∀ y0 y1 y2, LeO (trim_Ends_string.j1 k y0 y1 y2) (trim_Ends_string.j1 (k + 1) y0 y1 y2)) ∧ (∀ y0 y1 y2 y3, LeO (trim_Ends_string.l1 k y0 y1 y2 y3) (trim_Ends_string.l1 (k + 1) y0 y1 y2 y3)) ∧ (∀ y0 y1 y2, LeO (trim_Ends_string.l0 k y0 y1 y2) (trim_Ends_string.l0 (k + 1) y0 y1 y2))
 | 0 => ⟨fun _ _ _ r h => by simp [trim_Ends_string.j1] at h, fun _ _ _ _ r h => by simp [trim_Ends_string.l1] at h, fun _ _ _ r h => by simp [trim_Ends_string.l0] at h⟩
 | k + 1 => by
  obtain ⟨ih0, ih1, ih2⟩ := trim_Ends_string.mono_l k
  refine ⟨?_, ?_, ?_⟩
  ·intro y0 y1 y2
   unfold trim_Ends_string.j1
   repeat' first
   | (with_reducible exact ih0 _ _ _)
   | (with_reducible exact ih1 _ _ _ _)
   | (with_reducible exact ih2 _ _ _)
   | (with_reducible exact LeO.refl _)
   | (with_reducible exact LeO.none _)
   | (with_reducible refine LeO.ite ?_ ?_)
   | (with_reducible refine LeO.bind ?_ (fun _ => ?_))
   | exact ih0 _ _ _
   | exact ih1 _ _ _ _
   | exact ih2 _ _ _
   | exact LeO.none _
   | refine LeO.ite ?_ ?_
   | refine LeO.bind ?_ (fun _ => ?_)
  ·intro y0 y1 y2 y3
   unfold trim_Ends_string.l1
   repeat' first
   | (with_reducible exact ih0 _ _ _)
   | (with_reducible exact ih1 _ _ _ _)
   | (with_reducible exact ih2 _ _ _)
   | (with_reducible exact LeO.refl _)
   | (with_reducible exact LeO.none _)
   | (with_reducible refine LeO.ite ?_ ?_)
   | (with_reducible refine LeO.bind ?_ (fun _ => ?_))
   | exact ih0 _ _ _
   | exact ih1 _ _ _ _
   | exact ih2 _ _ _
   | exact LeO.none _
   | refine LeO.ite ?_ ?_
   | refine LeO.bind ?_ (fun _ => ?_)
  ·intro y0 y1 y2
   unfold trim_Ends_string.l0
   repeat' first
   | (with_reducible exact ih0 _ _ _)
   | (with_reducible exact ih1 _ _ _ _)
   | (with_reducible exact ih2 _ _ _)
   | (with_reducible exact LeO.refl _)
   | (with_reducible exact LeO.none _)
   | (with_reducible refine LeO.ite ?_ ?_)
   | (with_reducible refine LeO.bind ?_ (fun _ => ?_))
   | exact ih0 _ _ _
   | exact ih1 _ _ _ _
   | exact ih2 _ _ _
   | exact LeO.none _
   | refine LeO.ite ?_ ?_
   | refine LeO.bind ?_ (fun _ => ?_)
theorem trim_Ends_string.mono : ∀ a0 a1 k, LeO (trim_Ends_string.f k a0 a1) (trim_Ends_string.f (k + 1) a0 a1) := by
 intro a0 a1 k
 obtain ⟨ih0, ih1, ih2⟩ := trim_Ends_string.mono_l k
 unfold trim_Ends_string.f
 repeat' first
   | (with_reducible exact ih0 _ _ _)
   | (with_reducible exact ih1 _ _ _ _)
   | (with_reducible exact ih2 _ _ _)
   | (with_reducible exact LeO.refl _)
   | (with_reducible exact LeO.none _)
   | (with_reducible refine LeO.ite ?_ ?_)
   | (with_reducible refine LeO.bind ?_ (fun _ => ?_))
   | exact ih0 _ _ _
   | exact ih1 _ _ _ _
   | exact ih2 _ _ _
   | exact LeO.none _
   | refine LeO.ite ?_ ?_
   | refine LeO.bind ?_ (fun _ => ?_)
set_option maxHeartbeats 8000000 in
set_option maxRecDepth 100000 in
theorem trim_Ends_string.calls (k : Nat) (A0 : Option Addr) (c0 : Nat) (l0 : List ByteArray) (A1 : Option Addr) (c1 : Nat) (l1 : List ByteArray) (r1 : Int) (r2 : Int) (w : World) (hr0 : Kd.C Kd.string w A0 l0.length l0) (hc0 : l0.length ≤ c0) (hr1 : Kd.C Kd.string w A1 l1.length l1) (hc1 : l1.length ≤ c1) (h : trim_Ends_string.f k l0 l1 = some (r1, r2)) :
  Calls Try.prog 22 #[.slice A0 l0.length c0, .slice A1 l1.length c1] w fun e w' => e = .returned (.tuple #[.int .i64 r1, .int .i64 r2]) ∧ Drawn0 w w' := by
 have HR0 := Aside0.mk hr0
 have HC0 := Aside0.mk hc0
 clear hr0 hc0
 have HR1 := Aside0.mk hr1
 have HC1 := Aside0.mk hc1
 clear hr1 hc1
 have H : (trim_Ends_string.l0 k l0 l1 0) = some (r1, r2) := h
 clear h
 have HC3 := Aside0.mk H
 clear H
 go_enter Try.func22, Try.ntmps22
 go_upto_block 0 with (fail)
 repeat (go_quiet (fail); go_upto_block 0 with (fail))
 go_cut [6] (fun v6 wc => ∃ (kq : Nat) (x6_2 : Int), v6 = .int .i64 x6_2 ∧ Aside0 (trim_Ends_string.j1 kq l0 l1 x6_2 = some (r1, r2)) ∧ Aside0 (kq ≤ k) ∧ Drawn0 w wc)
 case first =>
  have H := HC3.out
  clear HC3
  have H' := Aside0.mk H
  clear H
  go_wp2
  repeat (go_quiet (fail); try go_wp2)
  go_loopg [6] k (fun kq v6 w' => ∃ (x6_1 : Int), v6 = .int .i64 x6_1 ∧ Aside0 (trim_Ends_string.l0 kq l0 l1 x6_1 = some (r1, r2)) ∧ Aside0 (kq ≤ k) ∧ Drawn0 w w')
  case atStart => exact ⟨(0), (by first | rfl | (simp; done) | (simp [*]; done)), H', ⟨Nat.le_refl _⟩, by repeat (first | exact Drawn0.refl _ | apply Drawn0.step)⟩
  case round =>
   clear H'
   try clear c1
   try clear c2
   try clear p2
   obtain ⟨x6_1, rfl, HA, HK1, ⟨m1, rfl⟩⟩ := hrel
   cases gk with
   | zero => exact absurd HA.out (by simp [trim_Ends_string.l0])
   | succ k1 =>
    have H := HA.out
    clear HA
    simp only [trim_Ends_string.l0] at H
    obtain ⟨ji4, hji4⟩ : ∃ j_ : Int, (mn (l0.length : Int) (l1.length : Int)) = j_ := ⟨_, rfl⟩
    replace H : (if x6_1 < (ji4) then (if 0 ≤ x6_1 then (if x6_1 < (l0.length : Int) then (if x6_1 < (l1.length : Int) then (if (rdOf ByteArray.empty l0 x6_1).toList = (rdOf ByteArray.empty l1 x6_1).toList then (trim_Ends_string.l0 k1 l0 l1 (wrap64 (x6_1 + 1))) else (trim_Ends_string.j1 k1 l0 l1 x6_1)) else (none)) else (none)) else (none)) else (trim_Ends_string.j1 k1 l0 l1 x6_1)) = some (r1, r2) := by first | (rw [hji4] at H; exact H) | (simp only [hji4] at H ⊢; exact H)
    have hji4_ : (if (l1.length : Int) < (l0.length : Int) then (l1.length : Int) else (l0.length : Int)) = ji4 := hji4
    have hji4_n : (if l1.length < l0.length then (l1.length : Int) else (l0.length : Int)) = ji4 := by first | exact_mod_cast hji4_ | (rw [← hji4_]; simp only [Int.ofNat_lt]; done) | (rw [← hji4_]; (repeat' split) <;> omega)
    by_cases c5 : x6_1 < (ji4)
    ·rw [if_pos c5] at H
     have c5b0 : decide (x6_1 < (ji4)) = true := decide_eq_true c5
     clear c5
     (first | rw [c5b0] | (simp only [i64_w, i32_w]; rw [c5b0]) | skip)
     by_cases c6 : 0 ≤ x6_1
     ·rw [if_pos c6] at H
      have c6b0 : decide (0 ≤ x6_1) = true := decide_eq_true c6
      clear c6
      by_cases c7 : x6_1 < (l0.length : Int)
      ·rw [if_pos c7] at H
       have c7b0 : decide (x6_1 < (l0.length : Int)) = true := decide_eq_true c7
       clear c7
       by_cases c8 : x6_1 < (l1.length : Int)
       ·rw [if_pos c8] at H
        have c8b0 : decide (x6_1 < (l1.length : Int)) = true := decide_eq_true c8
        clear c8
        by_cases c9 : (rdOf ByteArray.empty l0 x6_1).toList = (rdOf ByteArray.empty l1 x6_1).toList
        ·rw [if_pos c9] at H
         have c9b0 : ((rdOf ByteArray.empty l0 x6_1).toList == (rdOf ByteArray.empty l1 x6_1).toList) = true := beq_iff_eq.mpr c9
         have c9b1 : ((rdOf ByteArray.empty l0 x6_1).toList != (rdOf ByteArray.empty l1 x6_1).toList) = false := bne_eq_false_iff_eq.mpr c9
         clear c9
         have H' := Aside0.mk H
         clear H
         have p101 : 0 ≤ (x6_1 : Int) := of_decide_eq_true (by first | (with_reducible assumption) | assumption)
         have q101 : x6_1 < (l0.length : Int) := of_decide_eq_true (by first | (with_reducible assumption) | assumption)
         obtain ⟨ad101, e101, hx101_0⟩ := Kd.at_string HR0.out x6_1 p101 q101
         cases e101
         replace p101 := eq_true p101
         replace q101 := eq_true q101
         have p102 : 0 ≤ (x6_1 : Int) := of_decide_eq_true (by first | (with_reducible assumption) | assumption)
         have q102 : x6_1 < (l1.length : Int) := of_decide_eq_true (by first | (with_reducible assumption) | assumption)
         obtain ⟨ad102, e102, hx102_0⟩ := Kd.at_string HR1.out x6_1 p102 q102
         cases e102
         replace p102 := eq_true p102
         replace q102 := eq_true q102
         go_wp2
         repeat (go_quiet (fail); try go_wp2)
         go_roundg k1
         case measure => have := HK1.out; omega
         case rel => exact ⟨(wrap64 (x6_1 + 1)), (by first | rfl | (simp; done) | (simp [*]; done)), H', ⟨by have := HK1.out; omega⟩, by repeat (first | exact Drawn0.refl _ | apply Drawn0.step)⟩
        ·rw [if_neg c9] at H
         have c9b0 : ((rdOf ByteArray.empty l0 x6_1).toList == (rdOf ByteArray.empty l1 x6_1).toList) = false := beq_eq_false_iff_ne.mpr c9
         have c9b1 : ((rdOf ByteArray.empty l0 x6_1).toList != (rdOf ByteArray.empty l1 x6_1).toList) = true := bne_iff_ne.mpr c9
         have H' := Aside0.mk H
         clear H
         have p101 : 0 ≤ (x6_1 : Int) := of_decide_eq_true (by first | (with_reducible assumption) | assumption)
         have q101 : x6_1 < (l0.length : Int) := of_decide_eq_true (by first | (with_reducible assumption) | assumption)
         obtain ⟨ad101, e101, hx101_0⟩ := Kd.at_string HR0.out x6_1 p101 q101
         cases e101
         replace p101 := eq_true p101
         replace q101 := eq_true q101
         have p102 : 0 ≤ (x6_1 : Int) := of_decide_eq_true (by first | (with_reducible assumption) | assumption)
         have q102 : x6_1 < (l1.length : Int) := of_decide_eq_true (by first | (with_reducible assumption) | assumption)
         obtain ⟨ad102, e102, hx102_0⟩ := Kd.at_string HR1.out x6_1 p102 q102
         cases e102
         replace p102 := eq_true p102
         replace q102 := eq_true q102
         go_wp2
         repeat (go_quiet (fail); try go_wp2)
         go_meet
         case rel => exact ⟨_, (x6_1), (by first | rfl | (simp; done) | (simp [*]; done)), H', ⟨by have := HK1.out; first | omega | exact Nat.le_refl _⟩, by repeat (first | exact Drawn0.refl _ | apply Drawn0.step)⟩
       ·rw [if_neg c8] at H
        exact absurd H (by simp)
      ·rw [if_neg c7] at H
       exact absurd H (by simp)
     ·rw [if_neg c6] at H
      exact absurd H (by simp)
    ·rw [if_neg c5] at H
     have c5b0 : decide (x6_1 < (ji4)) = false := decide_eq_false c5
     clear c5
     (first | rw [c5b0] | (simp only [i64_w, i32_w]; rw [c5b0]) | skip)
     have H' := Aside0.mk H
     clear H
     go_wp2
     repeat (go_quiet (fail); try go_wp2)
     go_meet
     case rel => exact ⟨_, (x6_1), (by first | rfl | (simp; done) | (simp [*]; done)), H', ⟨by have := HK1.out; first | omega | exact Nat.le_refl _⟩, by repeat (first | exact Drawn0.refl _ | apply Drawn0.step)⟩
 case rest =>
  clear HC3
  try clear c1
  try clear p1
  try clear q1
  try clear hx1
  try clear c2
  try clear p2
  try clear c5
  try clear c5b0
  try clear c6
  try clear c6b0
  try clear p6
  try clear c7
  try clear c7b0
  try clear c8
  try clear c8b0
  try clear c9
  try clear c9b0
  try clear c9b1
  try clear hx101_0
  try clear hx102_0
  try clear p101
  try clear p102
  try clear p2
  try clear q101
  try clear q102
  obtain ⟨kq, x6_2, rfl, HA, HJ2, ⟨mc2, rfl⟩⟩ := hcut
  cases kq with
  | zero => exact absurd HA.out (by simp [trim_Ends_string.j1])
  | succ kj2 =>
   have H := HA.out
   clear HA
   simp only [trim_Ends_string.j1] at H
   by_cases c10 : 0 ≤ x6_2
   ·rw [if_pos c10] at H
    have c10b0 := eq_true c10
    have c10b1 : decide (0 ≤ x6_2) = true := decide_eq_true c10
    clear c10
    by_cases c11 : x6_2 ≤ (l0.length : Int)
    ·rw [if_pos c11] at H
     have c11b0 := eq_true c11
     have c11b1 : decide (x6_2 ≤ (l0.length : Int)) = true := decide_eq_true c11
     clear c11
     have c12b0 := eq_true (of_decide_eq_true (by first | (with_reducible assumption) | assumption) : 0 ≤ x6_2)
     by_cases c13 : x6_2 ≤ (l1.length : Int)
     ·rw [if_pos c13] at H
      have c13b0 := eq_true c13
      have c13b1 : decide (x6_2 ≤ (l1.length : Int)) = true := decide_eq_true c13
      clear c13
      have H' := Aside0.mk H
      clear H
      obtain ⟨i014, hi014, _, hsz14, _⟩ := info_parts info9
      obtain ⟨A14, hcut14, hA14, hC14⟩ := print_drop_of (P := Try.prog) Value.string (⟨#[]⟩ : ByteArray) 27 9 .i64 Try.underlying27 hi014 hsz14 A0 c0 l0 x6_2 (of_decide_eq_true (by first | (with_reducible assumption) | assumption)) (of_decide_eq_true (by first | (with_reducible assumption) | assumption)) HC0.out
      have HR103 := Aside0.mk (Kd.C_of_reads (h1 := fun _ => rfl) (hA14 _ (Kd.reads_of_C HR0.out)))
      have HC103 := Aside0.mk hC14
      clear hA14 hC14 hi014 hsz14
      obtain ⟨i015, hi015, _, hsz15, _⟩ := info_parts info9
      obtain ⟨A15, hcut15, hA15, hC15⟩ := print_drop_of (P := Try.prog) Value.string (⟨#[]⟩ : ByteArray) 27 9 .i64 Try.underlying27 hi015 hsz15 A1 c1 l1 x6_2 (of_decide_eq_true (by first | (with_reducible assumption) | assumption)) (of_decide_eq_true (by first | (with_reducible assumption) | assumption)) HC1.out
      have HR104 := Aside0.mk (Kd.C_of_reads (h1 := fun _ => rfl) (hA15 _ (Kd.reads_of_C HR1.out)))
      have HC104 := Aside0.mk hC15
      clear hA15 hC15 hi015 hsz15
      go_wp2
      repeat (go_quiet (fail); try go_wp2)
      go_loopg [7] kj2 (fun kq v7 w' => ∃ (x7_2 : Int), v7 = .int .i64 x7_2 ∧ Aside0 (trim_Ends_string.l1 kq (l0.drop (x6_2 : Int).toNat) (l1.drop (x6_2 : Int).toNat) x6_2 x7_2 = some (r1, r2)) ∧ Aside0 (kq ≤ kj2) ∧ Drawn0 w w')
      case atStart => exact ⟨(0), (by first | rfl | (simp; done) | (simp [*]; done)), H', ⟨Nat.le_refl _⟩, by repeat (first | exact Drawn0.refl _ | apply Drawn0.step)⟩
      case round =>
       clear H'
       try clear c1
       try clear p1
       try clear q1
       try clear hx1
       try clear c2
       try clear p2
       try clear c5
       try clear c5b0
       try clear c6
       try clear c6b0
       try clear p6
       try clear c7
       try clear c7b0
       try clear c8
       try clear c8b0
       try clear c9
       try clear c9b0
       try clear c9b1
       try clear c10
       try clear c10b0
       try clear c10b1
       try clear p10
       try clear q10
       try clear hx10
       try clear c11
       try clear c11b0
       try clear c11b1
       try clear c12
       try clear c12b0
       try clear c13
       try clear c13b0
       try clear c13b1
       try clear hx101_0
       try clear hx102_0
       try clear p1
       try clear p101
       try clear p102
       try clear p2
       try clear p6
       try clear q1
       try clear q101
       try clear q102
       obtain ⟨x7_2, rfl, HA, HK2, ⟨m2, rfl⟩⟩ := hrel
       cases gk with
       | zero => exact absurd HA.out (by simp [trim_Ends_string.l1])
       | succ k2 =>
        have H := HA.out
        clear HA
        simp only [trim_Ends_string.l1] at H
        obtain ⟨ji16, hji16⟩ : ∃ j_ : Int, (mn ((l0.drop (x6_2 : Int).toNat).length : Int) ((l1.drop (x6_2 : Int).toNat).length : Int)) = j_ := ⟨_, rfl⟩
        replace H : (if x7_2 < (ji16) then (if 0 ≤ (wrap64 ((wrap64 (((l0.drop (x6_2 : Int).toNat).length : Int) - 1)) - x7_2)) then (if (wrap64 ((wrap64 (((l0.drop (x6_2 : Int).toNat).length : Int) - 1)) - x7_2)) < ((l0.drop (x6_2 : Int).toNat).length : Int) then (if 0 ≤ (wrap64 ((wrap64 (((l1.drop (x6_2 : Int).toNat).length : Int) - 1)) - x7_2)) then (if (wrap64 ((wrap64 (((l1.drop (x6_2 : Int).toNat).length : Int) - 1)) - x7_2)) < ((l1.drop (x6_2 : Int).toNat).length : Int) then (if (rdOf ByteArray.empty (l0.drop (x6_2 : Int).toNat) (wrap64 ((wrap64 (((l0.drop (x6_2 : Int).toNat).length : Int) - 1)) - x7_2))).toList = (rdOf ByteArray.empty (l1.drop (x6_2 : Int).toNat) (wrap64 ((wrap64 (((l1.drop (x6_2 : Int).toNat).length : Int) - 1)) - x7_2))).toList then (trim_Ends_string.l1 k2 (l0.drop (x6_2 : Int).toNat) (l1.drop (x6_2 : Int).toNat) x6_2 (wrap64 (x7_2 + 1))) else (some (x6_2, x7_2))) else (none)) else (none)) else (none)) else (none)) else (some (x6_2, x7_2))) = some (r1, r2) := by first | (rw [hji16] at H; exact H) | (simp only [hji16] at H ⊢; exact H)
        have hji16_ : (if ((l1.drop (x6_2 : Int).toNat).length : Int) < ((l0.drop (x6_2 : Int).toNat).length : Int) then ((l1.drop (x6_2 : Int).toNat).length : Int) else ((l0.drop (x6_2 : Int).toNat).length : Int)) = ji16 := hji16
        (try (have hji16_d := hji16_; simp only [List.length_drop, List.length_take] at hji16_d))
        have hji16_n : (if (l1.drop (x6_2 : Int).toNat).length < (l0.drop (x6_2 : Int).toNat).length then ((l1.drop (x6_2 : Int).toNat).length : Int) else ((l0.drop (x6_2 : Int).toNat).length : Int)) = ji16 := by first | exact_mod_cast hji16_ | (rw [← hji16_]; simp only [Int.ofNat_lt]; done) | (rw [← hji16_]; (repeat' split) <;> omega)
        (try (have hji16_nd := hji16_n; simp only [List.length_drop, List.length_take] at hji16_nd))
        by_cases c17 : x7_2 < (ji16)
        ·rw [if_pos c17] at H
         have c17b0 : decide (x7_2 < (ji16)) = true := decide_eq_true c17
         clear c17
         obtain ⟨ji18, hji18⟩ : ∃ j_ : Int, (wrap64 ((wrap64 (((l0.drop (x6_2 : Int).toNat).length : Int) - 1)) - x7_2)) = j_ := ⟨_, rfl⟩
         replace H : (if 0 ≤ (ji18) then (if (ji18) < ((l0.drop (x6_2 : Int).toNat).length : Int) then (if 0 ≤ (wrap64 ((wrap64 (((l1.drop (x6_2 : Int).toNat).length : Int) - 1)) - x7_2)) then (if (wrap64 ((wrap64 (((l1.drop (x6_2 : Int).toNat).length : Int) - 1)) - x7_2)) < ((l1.drop (x6_2 : Int).toNat).length : Int) then (if (rdOf ByteArray.empty (l0.drop (x6_2 : Int).toNat) (ji18)).toList = (rdOf ByteArray.empty (l1.drop (x6_2 : Int).toNat) (wrap64 ((wrap64 (((l1.drop (x6_2 : Int).toNat).length : Int) - 1)) - x7_2))).toList then (trim_Ends_string.l1 k2 (l0.drop (x6_2 : Int).toNat) (l1.drop (x6_2 : Int).toNat) x6_2 (wrap64 (x7_2 + 1))) else (some (x6_2, x7_2))) else (none)) else (none)) else (none)) else (none)) = some (r1, r2) := by first | (rw [hji18] at H; exact H) | (simp only [hji18] at H ⊢; exact H)
         have hji18w : (IntKind.i64.wrap ((wrap64 (((l0.drop (x6_2 : Int).toNat).length : Int) - 1)) - x7_2)) = ji18 := (i64_w _).trans hji18
         (try (have hji18wd := hji18w; simp only [List.length_drop, List.length_take] at hji18wd))
         by_cases c19 : 0 ≤ (ji18)
         ·rw [if_pos c19] at H
          have c19b0 : decide (0 ≤ (ji18)) = true := decide_eq_true c19
          clear c19
          by_cases c20 : (ji18) < ((l0.drop (x6_2 : Int).toNat).length : Int)
          ·rw [if_pos c20] at H
           have c20b0 : decide ((ji18) < ((l0.drop (x6_2 : Int).toNat).length : Int)) = true := decide_eq_true c20
           (try (have c20b0d := c20b0; simp only [List.length_drop, List.length_take] at c20b0d))
           clear c20
           obtain ⟨ji21, hji21⟩ : ∃ j_ : Int, (wrap64 ((wrap64 (((l1.drop (x6_2 : Int).toNat).length : Int) - 1)) - x7_2)) = j_ := ⟨_, rfl⟩
           replace H : (if 0 ≤ (ji21) then (if (ji21) < ((l1.drop (x6_2 : Int).toNat).length : Int) then (if (rdOf ByteArray.empty (l0.drop (x6_2 : Int).toNat) (ji18)).toList = (rdOf ByteArray.empty (l1.drop (x6_2 : Int).toNat) (ji21)).toList then (trim_Ends_string.l1 k2 (l0.drop (x6_2 : Int).toNat) (l1.drop (x6_2 : Int).toNat) x6_2 (wrap64 (x7_2 + 1))) else (some (x6_2, x7_2))) else (none)) else (none)) = some (r1, r2) := by first | (rw [hji21] at H; exact H) | (simp only [hji21] at H ⊢; exact H)
           have hji21w : (IntKind.i64.wrap ((wrap64 (((l1.drop (x6_2 : Int).toNat).length : Int) - 1)) - x7_2)) = ji21 := (i64_w _).trans hji21
           (try (have hji21wd := hji21w; simp only [List.length_drop, List.length_take] at hji21wd))
           by_cases c22 : 0 ≤ (ji21)
           ·rw [if_pos c22] at H
            have c22b0 : decide (0 ≤ (ji21)) = true := decide_eq_true c22
            clear c22
            by_cases c23 : (ji21) < ((l1.drop (x6_2 : Int).toNat).length : Int)
            ·rw [if_pos c23] at H
             have c23b0 : decide ((ji21) < ((l1.drop (x6_2 : Int).toNat).length : Int)) = true := decide_eq_true c23
             (try (have c23b0d := c23b0; simp only [List.length_drop, List.length_take] at c23b0d))
             clear c23
             by_cases c24 : (rdOf ByteArray.empty (l0.drop (x6_2 : Int).toNat) (ji18)).toList = (rdOf ByteArray.empty (l1.drop (x6_2 : Int).toNat) (ji21)).toList
             ·rw [if_pos c24] at H
              have c24b0 : ((rdOf ByteArray.empty (l0.drop (x6_2 : Int).toNat) (ji18)).toList == (rdOf ByteArray.empty (l1.drop (x6_2 : Int).toNat) (ji21)).toList) = true := beq_iff_eq.mpr c24
              have c24b1 : ((rdOf ByteArray.empty (l0.drop (x6_2 : Int).toNat) (ji18)).toList != (rdOf ByteArray.empty (l1.drop (x6_2 : Int).toNat) (ji21)).toList) = false := bne_eq_false_iff_eq.mpr c24
              clear c24
              have H' := Aside0.mk H
              clear H
              have p105 : 0 ≤ ((ji18) : Int) := of_decide_eq_true (by first | (with_reducible assumption) | assumption)
              have q105 : (ji18) < ((l0.drop (x6_2 : Int).toNat).length : Int) := of_decide_eq_true (by first | (with_reducible assumption) | assumption)
              obtain ⟨ad105, e105, hx105_0⟩ := Kd.at_string HR103.out (ji18) p105 q105
              cases e105
              replace p105 := eq_true p105
              replace q105 := eq_true q105
              (try (have q105d := q105; simp only [List.length_drop, List.length_take] at q105d))
              have p106 : 0 ≤ ((ji21) : Int) := of_decide_eq_true (by first | (with_reducible assumption) | assumption)
              have q106 : (ji21) < ((l1.drop (x6_2 : Int).toNat).length : Int) := of_decide_eq_true (by first | (with_reducible assumption) | assumption)
              obtain ⟨ad106, e106, hx106_0⟩ := Kd.at_string HR104.out (ji21) p106 q106
              cases e106
              replace p106 := eq_true p106
              replace q106 := eq_true q106
              (try (have q106d := q106; simp only [List.length_drop, List.length_take] at q106d))
              go_wp2
              repeat (go_quiet (fail); try go_wp2)
              go_roundg k2
              case measure => have := HJ2.out; have := HK2.out; omega
              case rel => exact ⟨(wrap64 (x7_2 + 1)), (by first | rfl | (simp; done) | (simp [*]; done)), H', ⟨by have := HJ2.out; have := HK2.out; omega⟩, by repeat (first | exact Drawn0.refl _ | apply Drawn0.step)⟩
             ·rw [if_neg c24] at H
              have c24b0 : ((rdOf ByteArray.empty (l0.drop (x6_2 : Int).toNat) (ji18)).toList == (rdOf ByteArray.empty (l1.drop (x6_2 : Int).toNat) (ji21)).toList) = false := beq_eq_false_iff_ne.mpr c24
              have c24b1 : ((rdOf ByteArray.empty (l0.drop (x6_2 : Int).toNat) (ji18)).toList != (rdOf ByteArray.empty (l1.drop (x6_2 : Int).toNat) (ji21)).toList) = true := bne_iff_ne.mpr c24
              simp only [Option.some.injEq, Prod.mk.injEq] at H
              obtain ⟨rfl, rfl⟩ := H
              have p105 : 0 ≤ ((ji18) : Int) := of_decide_eq_true (by first | (with_reducible assumption) | assumption)
              have q105 : (ji18) < ((l0.drop (x6_2 : Int).toNat).length : Int) := of_decide_eq_true (by first | (with_reducible assumption) | assumption)
              obtain ⟨ad105, e105, hx105_0⟩ := Kd.at_string HR103.out (ji18) p105 q105
              cases e105
              replace p105 := eq_true p105
              replace q105 := eq_true q105
              (try (have q105d := q105; simp only [List.length_drop, List.length_take] at q105d))
              have p106 : 0 ≤ ((ji21) : Int) := of_decide_eq_true (by first | (with_reducible assumption) | assumption)
              have q106 : (ji21) < ((l1.drop (x6_2 : Int).toNat).length : Int) := of_decide_eq_true (by first | (with_reducible assumption) | assumption)
              obtain ⟨ad106, e106, hx106_0⟩ := Kd.at_string HR104.out (ji21) p106 q106
              cases e106
              replace p106 := eq_true p106
              replace q106 := eq_true q106
              (try (have q106d := q106; simp only [List.length_drop, List.length_take] at q106d))
              go_wp2
              repeat (go_quiet (fail); try go_wp2)
              go_ret2
              exact ⟨by first | rfl | (simp; done) | (simp only [← hji16, ← hji18, ← hji21] <;> (first | rfl | simp)) | (simp [*]; done), by repeat (first | exact Drawn0.refl _ | apply Drawn0.step)⟩
            ·rw [if_neg c23] at H
             exact absurd H (by simp)
           ·rw [if_neg c22] at H
            exact absurd H (by simp)
          ·rw [if_neg c20] at H
           exact absurd H (by simp)
         ·rw [if_neg c19] at H
          exact absurd H (by simp)
        ·rw [if_neg c17] at H
         have c17b0 : decide (x7_2 < (ji16)) = false := decide_eq_false c17
         clear c17
         simp only [Option.some.injEq, Prod.mk.injEq] at H
         obtain ⟨rfl, rfl⟩ := H
         go_wp2
         repeat (go_quiet (fail); try go_wp2)
         go_ret2
         exact ⟨by first | rfl | (simp; done) | (simp only [← hji16] <;> (first | rfl | simp)) | (simp [*]; done), by repeat (first | exact Drawn0.refl _ | apply Drawn0.step)⟩
     ·rw [if_neg c13] at H
      exact absurd H (by simp)
    ·rw [if_neg c11] at H
     exact absurd H (by simp)
   ·rw [if_neg c10] at H
    exact absurd H (by simp)
end Go.Proofs.Ytadafplbgophfaa.PA
end
section
namespace Go.Proofs.Ytadafplbgophfaa.PA
open Go.RowKit Go.Proofs.YtadafplbgophfaaW.PrintWords Go.Proofs.YtadafplbgophfaaW.PrintLast Go.Proofs.YtadafplbgophfaaW.PrintMore
attribute [local go_sem] max2_int min2_int max_two min_two max_three min_three max_four min_four   -- for this text's walks alone
set_option linter.unusedVariables false
set_option linter.unusedSimpArgs false
def build_Hoist.f (k : Nat) (l0 : List ByteArray) (l1 : List ByteArray) : Option (Int × Int) := (trim_Ends_string.f k l0 l1).bind fun bt101 => (some (bt101.1, bt101.2))
theorem build_Hoist.mono : ∀ a0 a1 k, LeO (build_Hoist.f k a0 a1) (build_Hoist.f (k + 1) a0 a1) := by
 intro a0 a1 k
 unfold build_Hoist.f
 repeat' first
   | (with_reducible exact trim_Ends_string.mono _ _ _)
   | (with_reducible exact LeO.refl _)
   | (with_reducible exact LeO.none _)
   | (with_reducible refine LeO.ite ?_ ?_)
   | (with_reducible refine LeO.bind ?_ (fun _ => ?_))
   | exact trim_Ends_string.mono _ _ _
   | exact LeO.none _
   | refine LeO.ite ?_ ?_
   | refine LeO.bind ?_ (fun _ => ?_)
set_option maxHeartbeats 8000000 in
set_option maxRecDepth 100000 in
theorem build_Hoist.calls (k : Nat) (A0 : Option Addr) (c0 : Nat) (l0 : List ByteArray) (A1 : Option Addr) (c1 : Nat) (l1 : List ByteArray) (r1 : Int) (r2 : Int) (w : World) (hr0 : Kd.C Kd.string w A0 l0.length l0) (hc0 : l0.length ≤ c0) (hr1 : Kd.C Kd.string w A1 l1.length l1) (hc1 : l1.length ≤ c1) (h : build_Hoist.f k l0 l1 = some (r1, r2)) :
  Calls Try.prog 57 #[.slice A0 l0.length c0, .slice A1 l1.length c1] w fun e w' => e = .returned (.tuple #[.int .i64 r1, .int .i64 r2]) ∧ Drawn0 w w' := by
 have HR0 := Aside0.mk hr0
 have HC0 := Aside0.mk hc0
 clear hr0 hc0
 have HR1 := Aside0.mk hr1
 have HC1 := Aside0.mk hc1
 clear hr1 hc1
 have H : ((trim_Ends_string.f k l0 l1).bind fun bt101 => (some (bt101.1, bt101.2))) = some (r1, r2) := h
 clear h
 replace H := Option.bind_eq_some_iff.mp H
 obtain ⟨⟨t101, t102⟩, A30, H⟩ := H
 replace H : (some (t101, t102)) = some (r1, r2) := H
 have A3 := Aside0.mk A30
 clear A30
 simp only [Option.some.injEq, Prod.mk.injEq] at H
 obtain ⟨rfl, rfl⟩ := H
 go_enter Try.func57, Try.ntmps57
 go_wp2_with (first | ((with_reducible refine gate_callee (f := 22) rfl ?_); refine goesL_ (some 8) rfl rfl Try.func22 (by kernel_rfl) rfl #[.slice A0 l0.length c0, .slice A1 l1.length c1] rfl (by (try simp only [List.map_toArray, List.map_cons, List.map_nil]); first | done | rfl | (simp only [List.length_drop, List.length_take]; rfl)) ?_; (with_reducible refine (trim_Ends_string.calls k _ _ l0 _ _ l1 t101 t102 _ ?side1 ?side2 ?side3 ?side4 A3.out).mono ?_); (case side1 => repeat (first | exact HR0.out | (with_reducible refine Kd.C_alloc ?_ _) | (with_reducible refine Kd.C_drewN ?_ _) | (with_reducible refine Kd.C_drew ?_))); (case side2 => exact HC0.out); (case side3 => repeat (first | exact HR1.out | (with_reducible refine Kd.C_alloc ?_ _) | (with_reducible refine Kd.C_drewN ?_ _) | (with_reducible refine Kd.C_drew ?_))); (case side4 => exact HC1.out); rintro e w' ⟨rfl, ⟨nd, rfl⟩⟩; refine ⟨_, rfl, ?_⟩))
 go_ret2
 exact ⟨by first | rfl | (simp; done) | (simp [*]; done), by repeat (first | exact Drawn0.refl _ | apply Drawn0.step)⟩
end Go.Proofs.Ytadafplbgophfaa.PA
end
section
namespace Go.Proofs.Ytadafplbgophfaa.PA
open Go.RowKit Go.Proofs.YtadafplbgophfaaW.PrintWords Go.Proofs.YtadafplbgophfaaW.PrintLast Go.Proofs.YtadafplbgophfaaW.PrintMore
attribute [local go_sem] max2_int min2_int max_two min_two max_three min_three max_four min_four   -- for this text's walks alone
set_option linter.unusedVariables false
set_option linter.unusedSimpArgs false
theorem eqA116 (d : Nat) (w : World) (x0 y0 : ByteArray) (x1 y1 : ByteArray) (x2 y2 : ByteArray) :
    (Op.equalIn (d + 2) 116 (.agg #[.string x0, .string x1, .string x2]) (.agg #[.string y0, .string y1, .string y2])).run Try.prog w = .ok (x0.toList == y0.toList && (x1.toList == y1.toList && (x2.toList == y2.toList))) w := by
  refine eqA_of Try.underlying116 (by kernel_rfl) ?_
  refine eqf_cons (by rfl) (by go_simp; rfl) (by go_simp; rfl) (by go_simp) ?_
  refine eqf_cons (by rfl) (by go_simp; rfl) (by go_simp; rfl) (by go_simp) ?_
  exact eqf_last (by rfl) (by go_simp; rfl) (by go_simp; rfl) (by go_simp)
theorem eqA120 (d : Nat) (w : World) (x0 y0 : ByteArray) (x1 y1 : ByteArray) (x2 y2 : ByteArray) (x3 y3 : Bool) (x4 y4 : ByteArray) (x5 y5 : ByteArray) (x6 y6 : ByteArray) (x7 y7 : ByteArray) (x8 y8 : Bool) :
    (Op.equalIn (d + 3) 120 (.agg #[.string x0, .string x1, .string x2, .bool x3, .string x4, .string x5, .string x6, .string x7, .bool x8]) (.agg #[.string y0, .string y1, .string y2, .bool y3, .string y4, .string y5, .string y6, .string y7, .bool y8])).run Try.prog w = .ok ((x0.toList == y0.toList && (x1.toList == y1.toList && (x2.toList == y2.toList))) && (x3 == y3 && (x4.toList == y4.toList && (x5.toList == y5.toList && (x6.toList == y6.toList && (x7.toList == y7.toList && (x8 == y8))))))) w := by
  refine eqA_of Try.underlying120 (by kernel_rfl) ?_
  refine eqf_cons (by rfl) (by go_simp) (by go_simp) (eqA116 (d + 0) w _ _ _ _ _ _) ?_
  refine eqf_cons (by rfl) (by go_simp; rfl) (by go_simp; rfl) (by go_simp) ?_
  refine eqf_cons (by rfl) (by go_simp; rfl) (by go_simp; rfl) (by go_simp) ?_
  refine eqf_cons (by rfl) (by go_simp; rfl) (by go_simp; rfl) (by go_simp) ?_
  refine eqf_cons (by rfl) (by go_simp; rfl) (by go_simp; rfl) (by go_simp) ?_
  refine eqf_cons (by rfl) (by go_simp; rfl) (by go_simp; rfl) (by go_simp) ?_
  exact eqf_last (by rfl) (by go_simp; rfl) (by go_simp; rfl) (by go_simp)
end Go.Proofs.Ytadafplbgophfaa.PA
end
section
namespace Go.Proofs.Ytadafplbgophfaa.PA
open Go.RowKit Go.Proofs.YtadafplbgophfaaW.PrintWords Go.Proofs.YtadafplbgophfaaW.PrintLast Go.Proofs.YtadafplbgophfaaW.PrintMore
attribute [local go_sem] max2_int min2_int max_two min_two max_three min_three max_four min_four   -- for this text's walks alone
set_option linter.unusedVariables false
set_option linter.unusedSimpArgs false
attribute [local go_sem high] eqA120
def doc_Part_isText.f (a0_0 : ByteArray) (a0_1 : ByteArray) (a0_2 : ByteArray) (a0_3 : Bool) (a0_4 : ByteArray) (a0_5 : ByteArray) (a0_6 : ByteArray) (a0_7 : ByteArray) (a0_8 : Bool) : Option (Bool) := some ((a0_0.toList == ([] : List UInt8) && (a0_1.toList == ([] : List UInt8) && (a0_2.toList == ([] : List UInt8)))) && (!a0_3 && (a0_5.toList == ([] : List UInt8) && (a0_6.toList == ([] : List UInt8) && (a0_7.toList == ([] : List UInt8) && (!a0_8))))))
set_option maxHeartbeats 8000000 in
set_option maxRecDepth 100000 in
theorem doc_Part_isText.calls (a0_0 : ByteArray) (a0_1 : ByteArray) (a0_2 : ByteArray) (a0_3 : Bool) (a0_4 : ByteArray) (a0_5 : ByteArray) (a0_6 : ByteArray) (a0_7 : ByteArray) (a0_8 : Bool) (r : Bool) (w : World) (h : doc_Part_isText.f a0_0 a0_1 a0_2 a0_3 a0_4 a0_5 a0_6 a0_7 a0_8 = some r) :
  Calls Try.prog 114 #[.agg #[.string a0_0, .string a0_1, .string a0_2, .bool a0_3, .string a0_4, .string a0_5, .string a0_6, .string a0_7, .bool a0_8]] w fun e w' => e = .returned (.bool r) ∧ Below w.heap.size w w' := by
 have hu120 := Try.underlying120
 have HB := Aside0.mk (Below.refl w.heap.size w)
 have H : (some ((a0_0.toList == ([] : List UInt8) && (a0_1.toList == ([] : List UInt8) && (a0_2.toList == ([] : List UInt8)))) && (!a0_3 && (a0_5.toList == ([] : List UInt8) && (a0_6.toList == ([] : List UInt8) && (a0_7.toList == ([] : List UInt8) && (!a0_8))))))) = some r := h
 clear h
 obtain rfl := Option.some.inj H
 go_enter Try.func114, Try.ntmps114
 go_wp2_with (first | ((with_reducible refine gate_dst (N := 1) rfl ?_); refine box_event ?hg (N := 1) ?hd (cs := #[.string a0_0, .string a0_1, .string a0_2, .bool a0_3, .string a0_4, .string a0_5, .string a0_6, .string a0_7, .bool a0_8]) (t := 120) ?hr ?_; (case hd => rfl); (case hg => rfl); (case hr => first | (go_simp; done) | (go_simp; rfl)); intro gb101 hg w2 hbox hb; have n0_ := Aside0.mk (below_step (by repeat (first | (with_reducible first | exact HB.out | apply below_alloc | apply pw_below_drewN | apply below_drew1) | exact HB.out)) hb); have n1_ := Aside0.mk (hbox); have n2_ := Aside0.mk ((by rw [hg]; exact (below_size (by repeat (first | (with_reducible first | exact HB.out | apply below_alloc | apply pw_below_drewN | apply below_drew1) | exact HB.out))) : w.heap.size ≤ gb101)); have n3_ := Aside0.mk ((by rw [hg]; exact (below_size (by repeat (first | (with_reducible first | exact HB.out | apply below_alloc | apply pw_below_drewN | apply below_drew1) | exact HB.out))) : w.heap.size ≤ gb101)); clear HB; have HB := n0_; have BK101 := n1_; have GW101 := n2_; have GE101 := n3_; clear n0_ n1_ n2_ n3_; clear hb hbox hg; have hcz3_0 : w2.cell? ⟨gb101, 0, none⟩ = some (.string a0_0) := (blk_cell BK101.out 0).trans rfl; have hcz3_1 : w2.cell? ⟨gb101, 1, none⟩ = some (.string a0_1) := (blk_cell BK101.out 1).trans rfl; have hcz3_2 : w2.cell? ⟨gb101, 2, none⟩ = some (.string a0_2) := (blk_cell BK101.out 2).trans rfl; have hcz3_3 : w2.cell? ⟨gb101, 3, none⟩ = some (.bool a0_3) := (blk_cell BK101.out 3).trans rfl; have hcz3_4 : w2.cell? ⟨gb101, 4, none⟩ = some (.string a0_4) := (blk_cell BK101.out 4).trans rfl; have hcz3_5 : w2.cell? ⟨gb101, 5, none⟩ = some (.string a0_5) := (blk_cell BK101.out 5).trans rfl; have hcz3_6 : w2.cell? ⟨gb101, 6, none⟩ = some (.string a0_6) := (blk_cell BK101.out 6).trans rfl; have hcz3_7 : w2.cell? ⟨gb101, 7, none⟩ = some (.string a0_7) := (blk_cell BK101.out 7).trans rfl; have hcz3_8 : w2.cell? ⟨gb101, 8, none⟩ = some (.bool a0_8) := (blk_cell BK101.out 8).trans rfl; have hfz3_0 := blk_frozen BK101.out 0; have hfz3_1 := blk_frozen BK101.out 1; have hfz3_2 := blk_frozen BK101.out 2; have hfz3_3 := blk_frozen BK101.out 3; have hfz3_4 := blk_frozen BK101.out 4; have hfz3_5 := blk_frozen BK101.out 5; have hfz3_6 := blk_frozen BK101.out 6; have hfz3_7 := blk_frozen BK101.out 7; have hfz3_8 := blk_frozen BK101.out 8))
 go_ret
 exact ⟨by first | rfl | (simp [errW_none, errW_some] <;> rfl) | (simp [*, errW_none, errW_some] <;> rfl), by repeat (first | (with_reducible first | exact HB.out | apply below_alloc | apply pw_below_drewN | apply below_drew1 | refine below_set ?_ GE101.out) | exact HB.out)⟩
end Go.Proofs.Ytadafplbgophfaa.PA
end
