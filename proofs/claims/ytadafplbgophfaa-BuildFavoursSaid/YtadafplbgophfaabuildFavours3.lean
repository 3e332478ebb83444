/- Part 3 of what the row of the law BuildFavours rests on: walks of functions, and plain lemmas (in part printed by the kit's print, what is not reached left out). -/
import Derived.Test.YtadafplbgophfaabuildFavours2
section
namespace Go.Proofs.Ytadafplbgophfaa.PA
open Go.RowKit Go.Proofs.YtadafplbgophfaaW.PrintWords Go.Proofs.YtadafplbgophfaaW.PrintLast Go.Proofs.YtadafplbgophfaaW.PrintMore
attribute [local go_sem] max2_int min2_int max_two min_two max_three min_three max_four min_four   -- for this text's walks alone
set_option linter.unusedVariables false
set_option linter.unusedSimpArgs false
set_option maxHeartbeats 40000000 in
set_option maxRecDepth 100000 in
theorem J35_.calls (k : Nat) (a0 : Int) (a1 : Int) (a2 : Int) (A3 : Option Addr) (c3 : Nat) (l3 : List (S37)) (A4 : Option Addr) (c4 : Nat) (l4 : List (S37)) (r1 : List (S81)) (r2 : Bool) (w : World) (hr3 : Kd.C k37 w A3 l3.length l3) (hc3 : l3.length ≤ c3) (hr4 : Kd.C k37 w A4 l4.length l4) (hc4 : l4.length ≤ c4) (h : J35_.f k a0 a1 a2 l3 l4 = some (r1, r2)) :
  Calls Try.prog 50 #[.int .i64 a0, .int .i64 a1, .int .i64 a2, .slice A3 l3.length c3, .slice A4 l4.length c4] w fun e w' => ∃ v0_ : Value, e = .returned (.tuple #[v0_, .bool r2]) ∧ Kd.R k81 81 w' w.heap.size (fun _ => True) v0_ r1 ∧ Below w.heap.size w w' := by
 have hu79 := Try.underlying79
 have hu81 := Try.underlying81
 have HR3 := Ja38_.mk hr3
 have HC3 := Ja38_.mk hc3
 clear hr3 hc3
 have HR4 := Ja38_.mk hr4
 have HC4 := Ja38_.mk hc4
 clear hr4 hc4
 have HB := Ja38_.mk (Below.refl w.heap.size w)
 have H : (if a0 < 0 then (J35_.j0 k a0 a1 a2 l3 l4 true) else (if a1 < 0 then (J35_.j0 k a0 a1 a2 l3 l4 true) else (if a2 < 0 then (J35_.j0 k a0 a1 a2 l3 l4 true) else ((J37_.f k a0 a1 l3).bind fun t101 => (if t101 = true then ((J37_.f k a0 a2 l4).bind fun t102 => (J35_.j0 k a0 a1 a2 l3 l4 (!t102))) else (J35_.j0 k a0 a1 a2 l3 l4 true)))))) = some (r1, r2) := h
 clear h
 have HC6 := Ja38_.mk H
 clear H
 go_enter Try.func50, Try.ntmps50
 go_upto_region 1 with (fail)
 repeat (go_quiet (fail); go_upto_region 1 with (fail))
 go_cut [42] (fun v42 wc => ∃ (kq : Nat) (x42_5 : Bool), v42 = .bool x42_5 ∧ Ja38_ (J35_.j0 kq a0 a1 a2 l3 l4 x42_5 = some (r1, r2)) ∧ Ja38_ (kq ≤ k) ∧ Ja38_ (Below w.heap.size w wc))
 case first =>
  have H := HC6.out
  clear HC6
  by_cases c7 : a0 < 0
  ·rw [if_pos c7] at H
   have c7b0 : decide (a0 < 0) = true := decide_eq_true c7
   clear c7
   (first | rw [c7b0] | (simp only [i64_w, i32_w]; rw [c7b0]) | skip)
   have H' := Ja38_.mk H
   clear H
   go_wp2
   repeat (go_quiet (fail); try go_wp2)
   go_meet
   case rel => exact ⟨_, (true), (by first | rfl | (simp; done) | (simp [*]; done)), H', ⟨by first | omega | exact Nat.le_refl _⟩, ⟨by repeat (first | (with_reducible first | exact HB.out | apply Ja43_ | apply Ja41_ | apply Ja42_) | exact HB.out)⟩⟩
  ·rw [if_neg c7] at H
   have c7b0 : decide (a0 < 0) = false := decide_eq_false c7
   clear c7
   (first | rw [c7b0] | (simp only [i64_w, i32_w]; rw [c7b0]) | skip)
   by_cases c8 : a1 < 0
   ·rw [if_pos c8] at H
    have c8b0 : decide (a1 < 0) = true := decide_eq_true c8
    clear c8
    have H' := Ja38_.mk H
    clear H
    go_wp2
    repeat (go_quiet (fail); try go_wp2)
    go_meet
    case rel => exact ⟨_, (true), (by first | rfl | (simp; done) | (simp [*]; done)), H', ⟨by first | omega | exact Nat.le_refl _⟩, ⟨by repeat (first | (with_reducible first | exact HB.out | apply Ja43_ | apply Ja41_ | apply Ja42_) | exact HB.out)⟩⟩
   ·rw [if_neg c8] at H
    have c8b0 : decide (a1 < 0) = false := decide_eq_false c8
    clear c8
    by_cases c9 : a2 < 0
    ·rw [if_pos c9] at H
     have c9b0 : decide (a2 < 0) = true := decide_eq_true c9
     clear c9
     have H' := Ja38_.mk H
     clear H
     go_wp2
     repeat (go_quiet (fail); try go_wp2)
     go_meet
     case rel => exact ⟨_, (true), (by first | rfl | (simp; done) | (simp [*]; done)), H', ⟨by first | omega | exact Nat.le_refl _⟩, ⟨by repeat (first | (with_reducible first | exact HB.out | apply Ja43_ | apply Ja41_ | apply Ja42_) | exact HB.out)⟩⟩
    ·rw [if_neg c9] at H
     have c9b0 : decide (a2 < 0) = false := decide_eq_false c9
     clear c9
     replace H := Option.bind_eq_some_iff.mp H
     obtain ⟨t101, A100, H⟩ := H
     replace H : (if t101 = true then ((J37_.f k a0 a2 l4).bind fun t102 => (J35_.j0 k a0 a1 a2 l3 l4 (!t102))) else (J35_.j0 k a0 a1 a2 l3 l4 true)) = some (r1, r2) := H
     have A10 := Ja38_.mk A100
     clear A100
     by_cases c11 : t101 = true
     ·subst c11
      have H1 : ((J37_.f k a0 a2 l4).bind fun t102 => (J35_.j0 k a0 a1 a2 l3 l4 (!t102))) = some (r1, r2) := by rw [if_pos rfl] at H; exact H
      clear H
      have H := H1
      clear H1
      replace H := Option.bind_eq_some_iff.mp H
      obtain ⟨t102, A120, H⟩ := H
      replace H : (J35_.j0 k a0 a1 a2 l3 l4 (!t102)) = some (r1, r2) := H
      have A12 := Ja38_.mk A120
      clear A120
      have H' := Ja38_.mk H
      clear H
      go_wp2_with (first | (go_at_call 94; (with_reducible refine (J37_.calls k a0 a1 _ _ l3 true _ ?side1 ?side2 A10.out).mono ?_); (case side1 => repeat (first | exact (Kd.C_below HR3.out HB.out) | (with_reducible refine Kd.C_alloc ?_ _) | (with_reducible refine Kd.C_drewN ?_ _) | (with_reducible refine Kd.C_drew ?_))); (case side2 => exact HC3.out); rintro e w13 ⟨rfl, hb⟩; have n0_ := Ja38_.mk (Ja44_ (by repeat (first | (with_reducible first | exact HB.out | apply Ja43_ | apply Ja41_ | apply Ja42_) | exact HB.out)) hb); clear HB; have HB := n0_; clear n0_; (try clear hb); (try clear hb2); (try clear hk); (try clear hi)) | (go_at_call 94; (with_reducible refine (J37_.calls k a0 a2 _ _ l4 t102 _ ?side1 ?side2 A12.out).mono ?_); (case side1 => repeat (first | exact (Kd.C_below HR4.out HB.out) | (with_reducible refine Kd.C_alloc ?_ _) | (with_reducible refine Kd.C_drewN ?_ _) | (with_reducible refine Kd.C_drew ?_))); (case side2 => exact HC4.out); rintro e w14 ⟨rfl, hb⟩; have n0_ := Ja38_.mk (Ja44_ (by repeat (first | (with_reducible first | exact HB.out | apply Ja43_ | apply Ja41_ | apply Ja42_) | exact HB.out)) hb); clear HB; have HB := n0_; clear n0_; (try clear hb); (try clear hb2); (try clear hk); (try clear hi)))
      repeat (go_quiet (first | (go_at_call 94; (with_reducible refine (J37_.calls k a0 a1 _ _ l3 true _ ?side1 ?side2 A10.out).mono ?_); (case side1 => repeat (first | exact (Kd.C_below HR3.out HB.out) | (with_reducible refine Kd.C_alloc ?_ _) | (with_reducible refine Kd.C_drewN ?_ _) | (with_reducible refine Kd.C_drew ?_))); (case side2 => exact HC3.out); rintro e w13 ⟨rfl, hb⟩; have n0_ := Ja38_.mk (Ja44_ (by repeat (first | (with_reducible first | exact HB.out | apply Ja43_ | apply Ja41_ | apply Ja42_) | exact HB.out)) hb); clear HB; have HB := n0_; clear n0_; (try clear hb); (try clear hb2); (try clear hk); (try clear hi)) | (go_at_call 94; (with_reducible refine (J37_.calls k a0 a2 _ _ l4 t102 _ ?side1 ?side2 A12.out).mono ?_); (case side1 => repeat (first | exact (Kd.C_below HR4.out HB.out) | (with_reducible refine Kd.C_alloc ?_ _) | (with_reducible refine Kd.C_drewN ?_ _) | (with_reducible refine Kd.C_drew ?_))); (case side2 => exact HC4.out); rintro e w14 ⟨rfl, hb⟩; have n0_ := Ja38_.mk (Ja44_ (by repeat (first | (with_reducible first | exact HB.out | apply Ja43_ | apply Ja41_ | apply Ja42_) | exact HB.out)) hb); clear HB; have HB := n0_; clear n0_; (try clear hb); (try clear hb2); (try clear hk); (try clear hi))); try go_wp2_with (first | (go_at_call 94; (with_reducible refine (J37_.calls k a0 a1 _ _ l3 true _ ?side1 ?side2 A10.out).mono ?_); (case side1 => repeat (first | exact (Kd.C_below HR3.out HB.out) | (with_reducible refine Kd.C_alloc ?_ _) | (with_reducible refine Kd.C_drewN ?_ _) | (with_reducible refine Kd.C_drew ?_))); (case side2 => exact HC3.out); rintro e w13 ⟨rfl, hb⟩; have n0_ := Ja38_.mk (Ja44_ (by repeat (first | (with_reducible first | exact HB.out | apply Ja43_ | apply Ja41_ | apply Ja42_) | exact HB.out)) hb); clear HB; have HB := n0_; clear n0_; (try clear hb); (try clear hb2); (try clear hk); (try clear hi)) | (go_at_call 94; (with_reducible refine (J37_.calls k a0 a2 _ _ l4 t102 _ ?side1 ?side2 A12.out).mono ?_); (case side1 => repeat (first | exact (Kd.C_below HR4.out HB.out) | (with_reducible refine Kd.C_alloc ?_ _) | (with_reducible refine Kd.C_drewN ?_ _) | (with_reducible refine Kd.C_drew ?_))); (case side2 => exact HC4.out); rintro e w14 ⟨rfl, hb⟩; have n0_ := Ja38_.mk (Ja44_ (by repeat (first | (with_reducible first | exact HB.out | apply Ja43_ | apply Ja41_ | apply Ja42_) | exact HB.out)) hb); clear HB; have HB := n0_; clear n0_; (try clear hb); (try clear hb2); (try clear hk); (try clear hi))))
      go_meet
      case rel => exact ⟨_, (!t102), (by first | rfl | (simp; done) | (simp [*]; done)), H', ⟨by first | omega | exact Nat.le_refl _⟩, ⟨by repeat (first | (with_reducible first | exact HB.out | apply Ja43_ | apply Ja41_ | apply Ja42_) | exact HB.out)⟩⟩
     ·replace c11 := Bool.eq_false_iff.mpr c11
      subst c11
      have H1 : (J35_.j0 k a0 a1 a2 l3 l4 true) = some (r1, r2) := by rw [if_neg (show ¬ (false = true) by decide)] at H; exact H
      clear H
      have H := H1
      clear H1
      have H' := Ja38_.mk H
      clear H
      go_wp2_with (first | (go_at_call 94; (with_reducible refine (J37_.calls k a0 a1 _ _ l3 false _ ?side1 ?side2 A10.out).mono ?_); (case side1 => repeat (first | exact (Kd.C_below HR3.out HB.out) | (with_reducible refine Kd.C_alloc ?_ _) | (with_reducible refine Kd.C_drewN ?_ _) | (with_reducible refine Kd.C_drew ?_))); (case side2 => exact HC3.out); rintro e w15 ⟨rfl, hb⟩; have n0_ := Ja38_.mk (Ja44_ (by repeat (first | (with_reducible first | exact HB.out | apply Ja43_ | apply Ja41_ | apply Ja42_) | exact HB.out)) hb); clear HB; have HB := n0_; clear n0_; (try clear hb); (try clear hb2); (try clear hk); (try clear hi)))
      repeat (go_quiet (first | (go_at_call 94; (with_reducible refine (J37_.calls k a0 a1 _ _ l3 false _ ?side1 ?side2 A10.out).mono ?_); (case side1 => repeat (first | exact (Kd.C_below HR3.out HB.out) | (with_reducible refine Kd.C_alloc ?_ _) | (with_reducible refine Kd.C_drewN ?_ _) | (with_reducible refine Kd.C_drew ?_))); (case side2 => exact HC3.out); rintro e w15 ⟨rfl, hb⟩; have n0_ := Ja38_.mk (Ja44_ (by repeat (first | (with_reducible first | exact HB.out | apply Ja43_ | apply Ja41_ | apply Ja42_) | exact HB.out)) hb); clear HB; have HB := n0_; clear n0_; (try clear hb); (try clear hb2); (try clear hk); (try clear hi))); try go_wp2_with (first | (go_at_call 94; (with_reducible refine (J37_.calls k a0 a1 _ _ l3 false _ ?side1 ?side2 A10.out).mono ?_); (case side1 => repeat (first | exact (Kd.C_below HR3.out HB.out) | (with_reducible refine Kd.C_alloc ?_ _) | (with_reducible refine Kd.C_drewN ?_ _) | (with_reducible refine Kd.C_drew ?_))); (case side2 => exact HC3.out); rintro e w15 ⟨rfl, hb⟩; have n0_ := Ja38_.mk (Ja44_ (by repeat (first | (with_reducible first | exact HB.out | apply Ja43_ | apply Ja41_ | apply Ja42_) | exact HB.out)) hb); clear HB; have HB := n0_; clear n0_; (try clear hb); (try clear hb2); (try clear hk); (try clear hi))))
      go_meet
      case rel => exact ⟨_, (true), (by first | rfl | (simp; done) | (simp [*]; done)), H', ⟨by first | omega | exact Nat.le_refl _⟩, ⟨by repeat (first | (with_reducible first | exact HB.out | apply Ja43_ | apply Ja41_ | apply Ja42_) | exact HB.out)⟩⟩
 case rest =>
  clear HC6
  try clear c1
  try clear p2
  try clear c3
  try clear c4
  try clear c5
  try clear c7
  try clear c7b0
  try clear c8
  try clear c8b0
  try clear c9
  try clear c9b0
  try clear c11
  obtain ⟨kq, x42_5, rfl, HA, HJ5, HB⟩ := hcut
  cases kq with
  | zero => exact absurd HA.out (by simp [J35_.j0])
  | succ kj5 =>
   have H := HA.out
   clear HA
   simp only [J35_.j0] at H
   by_cases c16 : x42_5 = true
   ·subst c16
    have H1 : (some (([] : List (S81)), false)) = some (r1, r2) := by rw [if_pos rfl] at H; exact H
    clear H
    have H := H1
    clear H1
    simp only [Option.some.injEq, Prod.mk.injEq] at H
    obtain ⟨rfl, rfl⟩ := H
    go_wp2
    repeat (go_quiet (fail); try go_wp2)
    go_ret2
    exact ⟨_, by first | rfl | (simp [errW_none, errW_some] <;> rfl) | (simp [*, errW_none, errW_some] <;> rfl), by first | exact Kd.R_nil _ _ _ _ _ | exact Kd.N_nil _ _ _ _ _ | exact Kd.V_nil _ _ _ _ _ | exact Kd.Q_nil _ _ _ _ _ | exact Kd.S_nil _ _ _ _ _, by repeat (first | (with_reducible first | exact HB.out | apply Ja43_ | apply Ja41_ | apply Ja42_) | exact HB.out)⟩
   ·replace c16 := Bool.eq_false_iff.mpr c16
    subst c16
    have H1 : (J35_.l0 kj5 a0 a1 a2 l3 l4 ([] : List (S81)) 0 0 0) = some (r1, r2) := by rw [if_neg (show ¬ (false = true) by decide)] at H; exact H
    clear H
    have H := H1
    clear H1
    have H' := Ja38_.mk H
    clear H
    go_wp2
    repeat (go_quiet (fail); try go_wp2)
    go_loopg [12, 13, 14, 15] kj5 (fun kq v12 v13 v14 v15 w' => ∃ (x12_2 : List (S81)) (x13_2 : Int) (x14_2 : Int) (x15_2 : Int), v13 = .int .i64 x13_2 ∧ v14 = .int .i64 x14_2 ∧ v15 = .int .i64 x15_2 ∧ Ja38_ (J35_.l0 kq a0 a1 a2 l3 l4 x12_2 x13_2 x14_2 x15_2 = some (r1, r2)) ∧ Ja38_ (kq ≤ kj5) ∧ Ja38_ (Kd.R k81 81 w' w.heap.size (fun _ => True) v12 x12_2) ∧ Ja38_ (Below w.heap.size w w'))
    case atStart => exact ⟨(([] : List (S81))), (0), (0), (0), (by first | rfl | (simp; done) | (simp [*]; done)), (by first | rfl | (simp; done) | (simp [*]; done)), (by first | rfl | (simp; done) | (simp [*]; done)), H', ⟨Nat.le_refl _⟩, ⟨by first | exact Kd.R_nil _ _ _ _ _ | exact Kd.N_nil _ _ _ _ _ | exact Kd.V_nil _ _ _ _ _ | exact Kd.Q_nil _ _ _ _ _ | exact Kd.S_nil _ _ _ _ _⟩, ⟨by repeat (first | (with_reducible first | exact HB.out | apply Ja43_ | apply Ja41_ | apply Ja42_) | exact HB.out)⟩⟩
    case round =>
     clear H'
     try clear c1
     try clear p2
     try clear c3
     try clear c4
     try clear c5
     try clear c7
     try clear c7b0
     try clear c8
     try clear c8b0
     try clear c9
     try clear c9b0
     try clear c11
     try clear c16
     try clear p2
     obtain ⟨x12_2, x13_2, x14_2, x15_2, rfl, rfl, rfl, HA, HK2, HO_12, HB⟩ := hrel
     cases gk with
     | zero => exact absurd HA.out (by simp [J35_.l0])
     | succ k2 =>
      have H := HA.out
      clear HA
      simp only [J35_.l0] at H
      have HC17 := Ja38_.mk H
      clear H
      go_upto_region 5 with (fail)
      repeat (go_quiet (fail); go_upto_region 5 with (fail))
      go_cut [55] (fun v55 wc => ∃ (kq : Nat) (x55_16 : Bool), v55 = .bool x55_16 ∧ Ja38_ (J35_.j2 kq a0 a1 a2 l3 l4 x12_2 x13_2 x14_2 x15_2 x55_16 = some (r1, r2)) ∧ Ja38_ (kq ≤ k2) ∧ Ja38_ (Kd.R k81 81 wc w.heap.size (fun _ => True) u12 x12_2) ∧ Ja38_ (Below w.heap.size w wc))
      case first =>
       have H := HC17.out
       clear HC17
       by_cases c18 : x13_2 < a0
       ·rw [if_pos c18] at H
        have c18b0 : decide (x13_2 < a0) = true := decide_eq_true c18
        clear c18
        (first | rw [c18b0] | (simp only [i64_w, i32_w]; rw [c18b0]) | skip)
        have H' := Ja38_.mk H
        clear H
        go_wp2
        repeat (go_quiet (fail); try go_wp2)
        go_meet
        case rel => exact ⟨_, (true), (by first | rfl | (simp; done) | (simp [*]; done)), H', ⟨by have := HJ5.out; have := HK2.out; first | omega | exact Nat.le_refl _⟩, ⟨by (with_reducible repeat (first | apply Kd.R_alloc | apply Kd.R_drewN | apply Kd.R_drew)); exact HO_12.out⟩, ⟨by repeat (first | (with_reducible first | exact HB.out | apply Ja43_ | apply Ja41_ | apply Ja42_) | exact HB.out)⟩⟩
       ·rw [if_neg c18] at H
        have c18b0 : decide (x13_2 < a0) = false := decide_eq_false c18
        clear c18
        (first | rw [c18b0] | (simp only [i64_w, i32_w]; rw [c18b0]) | skip)
        by_cases c19 : x14_2 < a1
        ·rw [if_pos c19] at H
         have c19b0 : decide (x14_2 < a1) = true := decide_eq_true c19
         clear c19
         have H' := Ja38_.mk H
         clear H
         go_wp2
         repeat (go_quiet (fail); try go_wp2)
         go_meet
         case rel => exact ⟨_, (true), (by first | rfl | (simp; done) | (simp [*]; done)), H', ⟨by have := HJ5.out; have := HK2.out; first | omega | exact Nat.le_refl _⟩, ⟨by (with_reducible repeat (first | apply Kd.R_alloc | apply Kd.R_drewN | apply Kd.R_drew)); exact HO_12.out⟩, ⟨by repeat (first | (with_reducible first | exact HB.out | apply Ja43_ | apply Ja41_ | apply Ja42_) | exact HB.out)⟩⟩
        ·rw [if_neg c19] at H
         have c19b0 : decide (x14_2 < a1) = false := decide_eq_false c19
         clear c19
         have H' := Ja38_.mk H
         clear H
         go_wp2
         repeat (go_quiet (fail); try go_wp2)
         go_meet
         case rel => exact ⟨_, (decide (x15_2 < a2)), (by first | rfl | (simp; done) | (simp [*]; done)), H', ⟨by have := HJ5.out; have := HK2.out; first | omega | exact Nat.le_refl _⟩, ⟨by (with_reducible repeat (first | apply Kd.R_alloc | apply Kd.R_drewN | apply Kd.R_drew)); exact HO_12.out⟩, ⟨by repeat (first | (with_reducible first | exact HB.out | apply Ja43_ | apply Ja41_ | apply Ja42_) | exact HB.out)⟩⟩
      case rest =>
       clear HC17
       try clear c1
       try clear p2
       try clear c3
       try clear c4
       try clear c5
       try clear c7
       try clear c7b0
       try clear c8
       try clear c8b0
       try clear c9
       try clear c9b0
       try clear c11
       try clear c16
       try clear c18
       try clear c18b0
       try clear c19
       try clear c19b0
       try clear p2
       obtain ⟨kq, x55_16, rfl, HA, HJ16, HO_12, HB⟩ := hcut
       cases kq with
       | zero => exact absurd HA.out (by simp [J35_.j2])
       | succ kj16 =>
        have H := HA.out
        clear HA
        simp only [J35_.j2] at H
        by_cases c20 : x55_16 = true
        ·subst c20
         have H1 : (J35_.l1 kj16 a0 a1 a2 l3 l4 x12_2 x13_2 x14_2 x15_2 0) = some (r1, r2) := by rw [if_pos rfl] at H; exact H
         clear H
         have H := H1
         clear H1
         have HC21 := Ja38_.mk H
         clear H
         go_upto_block 2 with (fail)
         repeat (go_quiet (fail); go_upto_block 2 with (fail))
         go_cut [16] (fun v16 wc => ∃ (kq : Nat) (x16_20 : Int), v16 = .int .i64 x16_20 ∧ Ja38_ (J35_.j4 kq a0 a1 a2 l3 l4 x12_2 x13_2 x14_2 x15_2 x16_20 = some (r1, r2)) ∧ Ja38_ (kq ≤ kj16) ∧ Ja38_ (Kd.R k81 81 wc w.heap.size (fun _ => True) u12 x12_2) ∧ Ja38_ (Below w.heap.size w wc))
         case first =>
          have H := HC21.out
          clear HC21
          have H' := Ja38_.mk H
          clear H
          go_wp2
          repeat (go_quiet (fail); try go_wp2)
          go_loopg [16] kj16 (fun kq v16 w' => ∃ (x16_4 : Int), v16 = .int .i64 x16_4 ∧ Ja38_ (J35_.l1 kq a0 a1 a2 l3 l4 x12_2 x13_2 x14_2 x15_2 x16_4 = some (r1, r2)) ∧ Ja38_ (kq ≤ kj16) ∧ Ja38_ (Kd.R k81 81 w' w.heap.size (fun _ => True) u12 x12_2) ∧ Ja38_ (Below w.heap.size w w'))
          case atStart => exact ⟨(0), (by first | rfl | (simp; done) | (simp [*]; done)), H', ⟨Nat.le_refl _⟩, ⟨by (with_reducible repeat (first | apply Kd.R_alloc | apply Kd.R_drewN | apply Kd.R_drew)); exact HO_12.out⟩, ⟨by repeat (first | (with_reducible first | exact HB.out | apply Ja43_ | apply Ja41_ | apply Ja42_) | exact HB.out)⟩⟩
          case round =>
           clear H'
           try clear c1
           try clear c2
           try clear p2
           try clear c3
           try clear c4
           try clear c5
           try clear c7
           try clear c7b0
           try clear c8
           try clear c8b0
           try clear c9
           try clear c9b0
           try clear c11
           try clear c16
           try clear c18
           try clear c18b0
           try clear c19
           try clear c19b0
           try clear c20
           try clear p2
           obtain ⟨x16_4, rfl, HA, HK4, HO_12, HB⟩ := hrel
           cases gk with
           | zero => exact absurd HA.out (by simp [J35_.l1])
           | succ k4 =>
            have H := HA.out
            clear HA
            simp only [J35_.l1] at H
            by_cases c22 : (wrap64 (x13_2 + x16_4)) < a0
            ·rw [if_pos c22] at H
             have c22b0 : decide ((wrap64 (x13_2 + x16_4)) < a0) = true := decide_eq_true c22
             clear c22
             (first | rw [c22b0] | (simp only [i64_w, i32_w]; rw [c22b0]) | skip)
             replace H := Option.bind_eq_some_iff.mp H
             obtain ⟨t103, A230, H⟩ := H
             replace H : (if t103 = (wrap64 (x14_2 + x16_4)) then ((J36_.f k4 l4 (wrap64 (x13_2 + x16_4))).bind fun t104 => (if t104 = (wrap64 (x15_2 + x16_4)) then (J35_.l1 k4 a0 a1 a2 l3 l4 x12_2 x13_2 x14_2 x15_2 (wrap64 (x16_4 + 1))) else (J35_.j4 k4 a0 a1 a2 l3 l4 x12_2 x13_2 x14_2 x15_2 x16_4))) else (J35_.j4 k4 a0 a1 a2 l3 l4 x12_2 x13_2 x14_2 x15_2 x16_4)) = some (r1, r2) := H
             have A23 := Ja38_.mk A230
             clear A230
             by_cases c24 : t103 = (wrap64 (x14_2 + x16_4))
             ·rw [if_pos c24] at H
              have c24b0 : (t103 == (wrap64 (x14_2 + x16_4))) = true := beq_iff_eq.mpr c24
              have c24b1 : (t103 != (wrap64 (x14_2 + x16_4))) = false := bne_eq_false_iff_eq.mpr c24
              clear c24
              replace H := Option.bind_eq_some_iff.mp H
              obtain ⟨t104, A250, H⟩ := H
              replace H : (if t104 = (wrap64 (x15_2 + x16_4)) then (J35_.l1 k4 a0 a1 a2 l3 l4 x12_2 x13_2 x14_2 x15_2 (wrap64 (x16_4 + 1))) else (J35_.j4 k4 a0 a1 a2 l3 l4 x12_2 x13_2 x14_2 x15_2 x16_4)) = some (r1, r2) := H
              have A25 := Ja38_.mk A250
              clear A250
              by_cases c26 : t104 = (wrap64 (x15_2 + x16_4))
              ·rw [if_pos c26] at H
               have c26b0 : (t104 == (wrap64 (x15_2 + x16_4))) = true := beq_iff_eq.mpr c26
               have c26b1 : (t104 != (wrap64 (x15_2 + x16_4))) = false := bne_eq_false_iff_eq.mpr c26
               clear c26
               have H' := Ja38_.mk H
               clear H
               go_wp2_with (first | (go_at_call 95; (with_reducible refine (J36_.calls k4 _ _ l3 (wrap64 (x13_2 + x16_4)) t103 _ ?side1 ?side2 A23.out).mono ?_); (case side1 => repeat (first | exact (Kd.C_below HR3.out HB.out) | (with_reducible refine Kd.C_alloc ?_ _) | (with_reducible refine Kd.C_drewN ?_ _) | (with_reducible refine Kd.C_drew ?_))); (case side2 => exact HC3.out); rintro e w' ⟨rfl, ⟨nd, rfl⟩⟩; (try first | exact ⟨rfl, _, World.drewN_drewN _ _ _⟩ | exact ⟨rfl, _, Eq.trans (World.drewN_drewN _ _ _) (congrArg (World.drewN _) (Nat.add_assoc _ _ _))⟩)) | (go_at_call 95; (with_reducible refine (J36_.calls k4 _ _ l4 (wrap64 (x13_2 + x16_4)) t104 _ ?side1 ?side2 A25.out).mono ?_); (case side1 => repeat (first | exact (Kd.C_below HR4.out (by repeat (first | (with_reducible first | exact HB.out | apply Ja43_ | apply Ja41_ | apply Ja42_) | exact HB.out))) | (with_reducible refine Kd.C_alloc ?_ _) | (with_reducible refine Kd.C_drewN ?_ _) | (with_reducible refine Kd.C_drew ?_))); (case side2 => exact HC4.out); rintro e w' ⟨rfl, ⟨nd, rfl⟩⟩; (try first | exact ⟨rfl, _, World.drewN_drewN _ _ _⟩ | exact ⟨rfl, _, Eq.trans (World.drewN_drewN _ _ _) (congrArg (World.drewN _) (Nat.add_assoc _ _ _))⟩)))
               repeat (go_quiet (first | (go_at_call 95; (with_reducible refine (J36_.calls k4 _ _ l3 (wrap64 (x13_2 + x16_4)) t103 _ ?side1 ?side2 A23.out).mono ?_); (case side1 => repeat (first | exact (Kd.C_below HR3.out HB.out) | (with_reducible refine Kd.C_alloc ?_ _) | (with_reducible refine Kd.C_drewN ?_ _) | (with_reducible refine Kd.C_drew ?_))); (case side2 => exact HC3.out); rintro e w' ⟨rfl, ⟨nd, rfl⟩⟩; (try first | exact ⟨rfl, _, World.drewN_drewN _ _ _⟩ | exact ⟨rfl, _, Eq.trans (World.drewN_drewN _ _ _) (congrArg (World.drewN _) (Nat.add_assoc _ _ _))⟩)) | (go_at_call 95; (with_reducible refine (J36_.calls k4 _ _ l4 (wrap64 (x13_2 + x16_4)) t104 _ ?side1 ?side2 A25.out).mono ?_); (case side1 => repeat (first | exact (Kd.C_below HR4.out (by repeat (first | (with_reducible first | exact HB.out | apply Ja43_ | apply Ja41_ | apply Ja42_) | exact HB.out))) | (with_reducible refine Kd.C_alloc ?_ _) | (with_reducible refine Kd.C_drewN ?_ _) | (with_reducible refine Kd.C_drew ?_))); (case side2 => exact HC4.out); rintro e w' ⟨rfl, ⟨nd, rfl⟩⟩; (try first | exact ⟨rfl, _, World.drewN_drewN _ _ _⟩ | exact ⟨rfl, _, Eq.trans (World.drewN_drewN _ _ _) (congrArg (World.drewN _) (Nat.add_assoc _ _ _))⟩))); try go_wp2_with (first | (go_at_call 95; (with_reducible refine (J36_.calls k4 _ _ l3 (wrap64 (x13_2 + x16_4)) t103 _ ?side1 ?side2 A23.out).mono ?_); (case side1 => repeat (first | exact (Kd.C_below HR3.out HB.out) | (with_reducible refine Kd.C_alloc ?_ _) | (with_reducible refine Kd.C_drewN ?_ _) | (with_reducible refine Kd.C_drew ?_))); (case side2 => exact HC3.out); rintro e w' ⟨rfl, ⟨nd, rfl⟩⟩; (try first | exact ⟨rfl, _, World.drewN_drewN _ _ _⟩ | exact ⟨rfl, _, Eq.trans (World.drewN_drewN _ _ _) (congrArg (World.drewN _) (Nat.add_assoc _ _ _))⟩)) | (go_at_call 95; (with_reducible refine (J36_.calls k4 _ _ l4 (wrap64 (x13_2 + x16_4)) t104 _ ?side1 ?side2 A25.out).mono ?_); (case side1 => repeat (first | exact (Kd.C_below HR4.out (by repeat (first | (with_reducible first | exact HB.out | apply Ja43_ | apply Ja41_ | apply Ja42_) | exact HB.out))) | (with_reducible refine Kd.C_alloc ?_ _) | (with_reducible refine Kd.C_drewN ?_ _) | (with_reducible refine Kd.C_drew ?_))); (case side2 => exact HC4.out); rintro e w' ⟨rfl, ⟨nd, rfl⟩⟩; (try first | exact ⟨rfl, _, World.drewN_drewN _ _ _⟩ | exact ⟨rfl, _, Eq.trans (World.drewN_drewN _ _ _) (congrArg (World.drewN _) (Nat.add_assoc _ _ _))⟩))))
               go_roundg k4
               case measure => have := HJ5.out; have := HK2.out; have := HJ16.out; have := HK4.out; omega
               case rel => exact ⟨(wrap64 (x16_4 + 1)), (by first | rfl | (simp; done) | (simp [*]; done)), H', ⟨by have := HJ5.out; have := HK2.out; have := HJ16.out; have := HK4.out; omega⟩, ⟨by (with_reducible repeat (first | apply Kd.R_alloc | apply Kd.R_drewN | apply Kd.R_drew)); exact HO_12.out⟩, ⟨by repeat (first | (with_reducible first | exact HB.out | apply Ja43_ | apply Ja41_ | apply Ja42_) | exact HB.out)⟩⟩
              ·rw [if_neg c26] at H
               have c26b0 : (t104 == (wrap64 (x15_2 + x16_4))) = false := beq_eq_false_iff_ne.mpr c26
               have c26b1 : (t104 != (wrap64 (x15_2 + x16_4))) = true := bne_iff_ne.mpr c26
               have H' := Ja38_.mk H
               clear H
               go_wp2_with (first | (go_at_call 95; (with_reducible refine (J36_.calls k4 _ _ l3 (wrap64 (x13_2 + x16_4)) t103 _ ?side1 ?side2 A23.out).mono ?_); (case side1 => repeat (first | exact (Kd.C_below HR3.out HB.out) | (with_reducible refine Kd.C_alloc ?_ _) | (with_reducible refine Kd.C_drewN ?_ _) | (with_reducible refine Kd.C_drew ?_))); (case side2 => exact HC3.out); rintro e w' ⟨rfl, ⟨nd, rfl⟩⟩; (try first | exact ⟨rfl, _, World.drewN_drewN _ _ _⟩ | exact ⟨rfl, _, Eq.trans (World.drewN_drewN _ _ _) (congrArg (World.drewN _) (Nat.add_assoc _ _ _))⟩)) | (go_at_call 95; (with_reducible refine (J36_.calls k4 _ _ l4 (wrap64 (x13_2 + x16_4)) t104 _ ?side1 ?side2 A25.out).mono ?_); (case side1 => repeat (first | exact (Kd.C_below HR4.out (by repeat (first | (with_reducible first | exact HB.out | apply Ja43_ | apply Ja41_ | apply Ja42_) | exact HB.out))) | (with_reducible refine Kd.C_alloc ?_ _) | (with_reducible refine Kd.C_drewN ?_ _) | (with_reducible refine Kd.C_drew ?_))); (case side2 => exact HC4.out); rintro e w' ⟨rfl, ⟨nd, rfl⟩⟩; (try first | exact ⟨rfl, _, World.drewN_drewN _ _ _⟩ | exact ⟨rfl, _, Eq.trans (World.drewN_drewN _ _ _) (congrArg (World.drewN _) (Nat.add_assoc _ _ _))⟩)))
               repeat (go_quiet (first | (go_at_call 95; (with_reducible refine (J36_.calls k4 _ _ l3 (wrap64 (x13_2 + x16_4)) t103 _ ?side1 ?side2 A23.out).mono ?_); (case side1 => repeat (first | exact (Kd.C_below HR3.out HB.out) | (with_reducible refine Kd.C_alloc ?_ _) | (with_reducible refine Kd.C_drewN ?_ _) | (with_reducible refine Kd.C_drew ?_))); (case side2 => exact HC3.out); rintro e w' ⟨rfl, ⟨nd, rfl⟩⟩; (try first | exact ⟨rfl, _, World.drewN_drewN _ _ _⟩ | exact ⟨rfl, _, Eq.trans (World.drewN_drewN _ _ _) (congrArg (World.drewN _) (Nat.add_assoc _ _ _))⟩)) | (go_at_call 95; (with_reducible refine (J36_.calls k4 _ _ l4 (wrap64 (x13_2 + x16_4)) t104 _ ?side1 ?side2 A25.out).mono ?_); (case side1 => repeat (first | exact (Kd.C_below HR4.out (by repeat (first | (with_reducible first | exact HB.out | apply Ja43_ | apply Ja41_ | apply Ja42_) | exact HB.out))) | (with_reducible refine Kd.C_alloc ?_ _) | (with_reducible refine Kd.C_drewN ?_ _) | (with_reducible refine Kd.C_drew ?_))); (case side2 => exact HC4.out); rintro e w' ⟨rfl, ⟨nd, rfl⟩⟩; (try first | exact ⟨rfl, _, World.drewN_drewN _ _ _⟩ | exact ⟨rfl, _, Eq.trans (World.drewN_drewN _ _ _) (congrArg (World.drewN _) (Nat.add_assoc _ _ _))⟩))); try go_wp2_with (first | (go_at_call 95; (with_reducible refine (J36_.calls k4 _ _ l3 (wrap64 (x13_2 + x16_4)) t103 _ ?side1 ?side2 A23.out).mono ?_); (case side1 => repeat (first | exact (Kd.C_below HR3.out HB.out) | (with_reducible refine Kd.C_alloc ?_ _) | (with_reducible refine Kd.C_drewN ?_ _) | (with_reducible refine Kd.C_drew ?_))); (case side2 => exact HC3.out); rintro e w' ⟨rfl, ⟨nd, rfl⟩⟩; (try first | exact ⟨rfl, _, World.drewN_drewN _ _ _⟩ | exact ⟨rfl, _, Eq.trans (World.drewN_drewN _ _ _) (congrArg (World.drewN _) (Nat.add_assoc _ _ _))⟩)) | (go_at_call 95; (with_reducible refine (J36_.calls k4 _ _ l4 (wrap64 (x13_2 + x16_4)) t104 _ ?side1 ?side2 A25.out).mono ?_); (case side1 => repeat (first | exact (Kd.C_below HR4.out (by repeat (first | (with_reducible first | exact HB.out | apply Ja43_ | apply Ja41_ | apply Ja42_) | exact HB.out))) | (with_reducible refine Kd.C_alloc ?_ _) | (with_reducible refine Kd.C_drewN ?_ _) | (with_reducible refine Kd.C_drew ?_))); (case side2 => exact HC4.out); rintro e w' ⟨rfl, ⟨nd, rfl⟩⟩; (try first | exact ⟨rfl, _, World.drewN_drewN _ _ _⟩ | exact ⟨rfl, _, Eq.trans (World.drewN_drewN _ _ _) (congrArg (World.drewN _) (Nat.add_assoc _ _ _))⟩))))
               go_meet
               case rel => exact ⟨_, (x16_4), (by first | rfl | (simp; done) | (simp [*]; done)), H', ⟨by have := HJ5.out; have := HK2.out; have := HJ16.out; have := HK4.out; first | omega | exact Nat.le_refl _⟩, ⟨by (with_reducible repeat (first | apply Kd.R_alloc | apply Kd.R_drewN | apply Kd.R_drew)); exact HO_12.out⟩, ⟨by repeat (first | (with_reducible first | exact HB.out | apply Ja43_ | apply Ja41_ | apply Ja42_) | exact HB.out)⟩⟩
             ·rw [if_neg c24] at H
              have c24b0 : (t103 == (wrap64 (x14_2 + x16_4))) = false := beq_eq_false_iff_ne.mpr c24
              have c24b1 : (t103 != (wrap64 (x14_2 + x16_4))) = true := bne_iff_ne.mpr c24
              have H' := Ja38_.mk H
              clear H
              go_wp2_with (first | (go_at_call 95; (with_reducible refine (J36_.calls k4 _ _ l3 (wrap64 (x13_2 + x16_4)) t103 _ ?side1 ?side2 A23.out).mono ?_); (case side1 => repeat (first | exact (Kd.C_below HR3.out HB.out) | (with_reducible refine Kd.C_alloc ?_ _) | (with_reducible refine Kd.C_drewN ?_ _) | (with_reducible refine Kd.C_drew ?_))); (case side2 => exact HC3.out); rintro e w' ⟨rfl, ⟨nd, rfl⟩⟩; (try first | exact ⟨rfl, _, World.drewN_drewN _ _ _⟩ | exact ⟨rfl, _, Eq.trans (World.drewN_drewN _ _ _) (congrArg (World.drewN _) (Nat.add_assoc _ _ _))⟩)))
              repeat (go_quiet (first | (go_at_call 95; (with_reducible refine (J36_.calls k4 _ _ l3 (wrap64 (x13_2 + x16_4)) t103 _ ?side1 ?side2 A23.out).mono ?_); (case side1 => repeat (first | exact (Kd.C_below HR3.out HB.out) | (with_reducible refine Kd.C_alloc ?_ _) | (with_reducible refine Kd.C_drewN ?_ _) | (with_reducible refine Kd.C_drew ?_))); (case side2 => exact HC3.out); rintro e w' ⟨rfl, ⟨nd, rfl⟩⟩; (try first | exact ⟨rfl, _, World.drewN_drewN _ _ _⟩ | exact ⟨rfl, _, Eq.trans (World.drewN_drewN _ _ _) (congrArg (World.drewN _) (Nat.add_assoc _ _ _))⟩))); try go_wp2_with (first | (go_at_call 95; (with_reducible refine (J36_.calls k4 _ _ l3 (wrap64 (x13_2 + x16_4)) t103 _ ?side1 ?side2 A23.out).mono ?_); (case side1 => repeat (first | exact (Kd.C_below HR3.out HB.out) | (with_reducible refine Kd.C_alloc ?_ _) | (with_reducible refine Kd.C_drewN ?_ _) | (with_reducible refine Kd.C_drew ?_))); (case side2 => exact HC3.out); rintro e w' ⟨rfl, ⟨nd, rfl⟩⟩; (try first | exact ⟨rfl, _, World.drewN_drewN _ _ _⟩ | exact ⟨rfl, _, Eq.trans (World.drewN_drewN _ _ _) (congrArg (World.drewN _) (Nat.add_assoc _ _ _))⟩))))
              go_meet
              case rel => exact ⟨_, (x16_4), (by first | rfl | (simp; done) | (simp [*]; done)), H', ⟨by have := HJ5.out; have := HK2.out; have := HJ16.out; have := HK4.out; first | omega | exact Nat.le_refl _⟩, ⟨by (with_reducible repeat (first | apply Kd.R_alloc | apply Kd.R_drewN | apply Kd.R_drew)); exact HO_12.out⟩, ⟨by repeat (first | (with_reducible first | exact HB.out | apply Ja43_ | apply Ja41_ | apply Ja42_) | exact HB.out)⟩⟩
            ·rw [if_neg c22] at H
             have c22b0 : decide ((wrap64 (x13_2 + x16_4)) < a0) = false := decide_eq_false c22
             clear c22
             (first | rw [c22b0] | (simp only [i64_w, i32_w]; rw [c22b0]) | skip)
             have H' := Ja38_.mk H
             clear H
             go_wp2
             repeat (go_quiet (fail); try go_wp2)
             go_meet
             case rel => exact ⟨_, (x16_4), (by first | rfl | (simp; done) | (simp [*]; done)), H', ⟨by have := HJ5.out; have := HK2.out; have := HJ16.out; have := HK4.out; first | omega | exact Nat.le_refl _⟩, ⟨by (with_reducible repeat (first | apply Kd.R_alloc | apply Kd.R_drewN | apply Kd.R_drew)); exact HO_12.out⟩, ⟨by repeat (first | (with_reducible first | exact HB.out | apply Ja43_ | apply Ja41_ | apply Ja42_) | exact HB.out)⟩⟩
         case rest =>
          clear HC21
          try clear c1
          try clear c2
          try clear p2
          try clear c3
          try clear c4
          try clear c5
          try clear p6
          try clear c7
          try clear c7b0
          try clear c8
          try clear c8b0
          try clear c9
          try clear c9b0
          try clear c11
          try clear c16
          try clear c18
          try clear c18b0
          try clear c19
          try clear c19b0
          try clear c20
          try clear c22
          try clear c22b0
          try clear c24
          try clear c24b0
          try clear c24b1
          try clear c26
          try clear c26b0
          try clear c26b1
          try clear p2
          obtain ⟨kq, x16_20, rfl, HA, HJ20, HO_12, HB⟩ := hcut
          cases kq with
          | zero => exact absurd HA.out (by simp [J35_.j4])
          | succ kj20 =>
           have H := HA.out
           clear HA
           simp only [J35_.j4] at H
           by_cases c27 : x16_20 = 0
           ·rw [if_pos c27] at H
            have c27b0 : (x16_20 == 0) = true := beq_iff_eq.mpr c27
            have c27b1 : (x16_20 != 0) = false := bne_eq_false_iff_eq.mpr c27
            clear c27
            have HC28 := Ja38_.mk H
            clear H
            go_upto_block 4 with (first | ((with_reducible refine gate_dst (N := 17) rfl ?_); refine box_event ?hg (N := 17) ?hd (cs := #[.bool false, .int .i64 0, .int .i64 0, .int .i64 0, .int .i64 0, .int .i64 0, .int .i64 0]) (t := 81) ?hr ?_; (case hd => rfl); (case hg => rfl); (case hr => first | (go_simp; done) | (go_simp; rfl)); intro gb105 hg w29 hbox hb; have n0_ := Ja38_.mk (Kd.R_below (Kd.R_elderB (by (with_reducible repeat (first | apply Kd.R_alloc | apply Kd.R_drewN | apply Kd.R_drew)); exact HO_12.out) gb105 (Nat.le_of_eq hg.symm)) hb); have n1_ := Ja38_.mk (Ja44_ (by repeat (first | (with_reducible first | exact HB.out | apply Ja43_ | apply Ja41_ | apply Ja42_) | exact HB.out)) hb); have n2_ := Ja38_.mk (hbox); have n3_ := Ja38_.mk ((by rw [hg]; exact (Ja45_ (by repeat (first | (with_reducible first | exact HB.out | apply Ja43_ | apply Ja41_ | apply Ja42_) | exact HB.out))) : w.heap.size ≤ gb105)); have n4_ := Ja38_.mk ((by rw [hg]; exact (Ja45_ (by repeat (first | (with_reducible first | exact HB.out | apply Ja43_ | apply Ja41_ | apply Ja42_) | exact HB.out))) : w.heap.size ≤ gb105)); clear HO_12; clear HB; have HO_12 := n0_; have HB := n1_; have BK105 := n2_; have GW105 := n3_; have GE105 := n4_; clear n0_ n1_ n2_ n3_ n4_; clear hb hbox hg; have hcz30_0 : w29.cell? ⟨gb105, 0, none⟩ = some (.bool false) := (Ja39_ BK105.out 0).trans rfl; have hcz30_1 : w29.cell? ⟨gb105, 1, none⟩ = some (.int .i64 0) := (Ja39_ BK105.out 1).trans rfl; have hcz30_2 : w29.cell? ⟨gb105, 2, none⟩ = some (.int .i64 0) := (Ja39_ BK105.out 2).trans rfl; have hcz30_3 : w29.cell? ⟨gb105, 3, none⟩ = some (.int .i64 0) := (Ja39_ BK105.out 3).trans rfl; have hcz30_4 : w29.cell? ⟨gb105, 4, none⟩ = some (.int .i64 0) := (Ja39_ BK105.out 4).trans rfl; have hcz30_5 : w29.cell? ⟨gb105, 5, none⟩ = some (.int .i64 0) := (Ja39_ BK105.out 5).trans rfl; have hcz30_6 : w29.cell? ⟨gb105, 6, none⟩ = some (.int .i64 0) := (Ja39_ BK105.out 6).trans rfl; have hfz30_0 := Ja40_ BK105.out 0; have hfz30_1 := Ja40_ BK105.out 1; have hfz30_2 := Ja40_ BK105.out 2; have hfz30_3 := Ja40_ BK105.out 3; have hfz30_4 := Ja40_ BK105.out 4; have hfz30_5 := Ja40_ BK105.out 5; have hfz30_6 := Ja40_ BK105.out 6))
            repeat (go_quiet (first | ((with_reducible refine gate_dst (N := 17) rfl ?_); refine box_event ?hg (N := 17) ?hd (cs := #[.bool false, .int .i64 0, .int .i64 0, .int .i64 0, .int .i64 0, .int .i64 0, .int .i64 0]) (t := 81) ?hr ?_; (case hd => rfl); (case hg => rfl); (case hr => first | (go_simp; done) | (go_simp; rfl)); intro gb105 hg w29 hbox hb; have n0_ := Ja38_.mk (Kd.R_below (Kd.R_elderB (by (with_reducible repeat (first | apply Kd.R_alloc | apply Kd.R_drewN | apply Kd.R_drew)); exact HO_12.out) gb105 (Nat.le_of_eq hg.symm)) hb); have n1_ := Ja38_.mk (Ja44_ (by repeat (first | (with_reducible first | exact HB.out | apply Ja43_ | apply Ja41_ | apply Ja42_) | exact HB.out)) hb); have n2_ := Ja38_.mk (hbox); have n3_ := Ja38_.mk ((by rw [hg]; exact (Ja45_ (by repeat (first | (with_reducible first | exact HB.out | apply Ja43_ | apply Ja41_ | apply Ja42_) | exact HB.out))) : w.heap.size ≤ gb105)); have n4_ := Ja38_.mk ((by rw [hg]; exact (Ja45_ (by repeat (first | (with_reducible first | exact HB.out | apply Ja43_ | apply Ja41_ | apply Ja42_) | exact HB.out))) : w.heap.size ≤ gb105)); clear HO_12; clear HB; have HO_12 := n0_; have HB := n1_; have BK105 := n2_; have GW105 := n3_; have GE105 := n4_; clear n0_ n1_ n2_ n3_ n4_; clear hb hbox hg; have hcz30_0 : w29.cell? ⟨gb105, 0, none⟩ = some (.bool false) := (Ja39_ BK105.out 0).trans rfl; have hcz30_1 : w29.cell? ⟨gb105, 1, none⟩ = some (.int .i64 0) := (Ja39_ BK105.out 1).trans rfl; have hcz30_2 : w29.cell? ⟨gb105, 2, none⟩ = some (.int .i64 0) := (Ja39_ BK105.out 2).trans rfl; have hcz30_3 : w29.cell? ⟨gb105, 3, none⟩ = some (.int .i64 0) := (Ja39_ BK105.out 3).trans rfl; have hcz30_4 : w29.cell? ⟨gb105, 4, none⟩ = some (.int .i64 0) := (Ja39_ BK105.out 4).trans rfl; have hcz30_5 : w29.cell? ⟨gb105, 5, none⟩ = some (.int .i64 0) := (Ja39_ BK105.out 5).trans rfl; have hcz30_6 : w29.cell? ⟨gb105, 6, none⟩ = some (.int .i64 0) := (Ja39_ BK105.out 6).trans rfl; have hfz30_0 := Ja40_ BK105.out 0; have hfz30_1 := Ja40_ BK105.out 1; have hfz30_2 := Ja40_ BK105.out 2; have hfz30_3 := Ja40_ BK105.out 3; have hfz30_4 := Ja40_ BK105.out 4; have hfz30_5 := Ja40_ BK105.out 5; have hfz30_6 := Ja40_ BK105.out 6)); go_upto_block 4 with (first | ((with_reducible refine gate_dst (N := 17) rfl ?_); refine box_event ?hg (N := 17) ?hd (cs := #[.bool false, .int .i64 0, .int .i64 0, .int .i64 0, .int .i64 0, .int .i64 0, .int .i64 0]) (t := 81) ?hr ?_; (case hd => rfl); (case hg => rfl); (case hr => first | (go_simp; done) | (go_simp; rfl)); intro gb105 hg w29 hbox hb; have n0_ := Ja38_.mk (Kd.R_below (Kd.R_elderB (by (with_reducible repeat (first | apply Kd.R_alloc | apply Kd.R_drewN | apply Kd.R_drew)); exact HO_12.out) gb105 (Nat.le_of_eq hg.symm)) hb); have n1_ := Ja38_.mk (Ja44_ (by repeat (first | (with_reducible first | exact HB.out | apply Ja43_ | apply Ja41_ | apply Ja42_) | exact HB.out)) hb); have n2_ := Ja38_.mk (hbox); have n3_ := Ja38_.mk ((by rw [hg]; exact (Ja45_ (by repeat (first | (with_reducible first | exact HB.out | apply Ja43_ | apply Ja41_ | apply Ja42_) | exact HB.out))) : w.heap.size ≤ gb105)); have n4_ := Ja38_.mk ((by rw [hg]; exact (Ja45_ (by repeat (first | (with_reducible first | exact HB.out | apply Ja43_ | apply Ja41_ | apply Ja42_) | exact HB.out))) : w.heap.size ≤ gb105)); clear HO_12; clear HB; have HO_12 := n0_; have HB := n1_; have BK105 := n2_; have GW105 := n3_; have GE105 := n4_; clear n0_ n1_ n2_ n3_ n4_; clear hb hbox hg; have hcz30_0 : w29.cell? ⟨gb105, 0, none⟩ = some (.bool false) := (Ja39_ BK105.out 0).trans rfl; have hcz30_1 : w29.cell? ⟨gb105, 1, none⟩ = some (.int .i64 0) := (Ja39_ BK105.out 1).trans rfl; have hcz30_2 : w29.cell? ⟨gb105, 2, none⟩ = some (.int .i64 0) := (Ja39_ BK105.out 2).trans rfl; have hcz30_3 : w29.cell? ⟨gb105, 3, none⟩ = some (.int .i64 0) := (Ja39_ BK105.out 3).trans rfl; have hcz30_4 : w29.cell? ⟨gb105, 4, none⟩ = some (.int .i64 0) := (Ja39_ BK105.out 4).trans rfl; have hcz30_5 : w29.cell? ⟨gb105, 5, none⟩ = some (.int .i64 0) := (Ja39_ BK105.out 5).trans rfl; have hcz30_6 : w29.cell? ⟨gb105, 6, none⟩ = some (.int .i64 0) := (Ja39_ BK105.out 6).trans rfl; have hfz30_0 := Ja40_ BK105.out 0; have hfz30_1 := Ja40_ BK105.out 1; have hfz30_2 := Ja40_ BK105.out 2; have hfz30_3 := Ja40_ BK105.out 3; have hfz30_4 := Ja40_ BK105.out 4; have hfz30_5 := Ja40_ BK105.out 5; have hfz30_6 := Ja40_ BK105.out 6)))
            (try simp only [Act.put, sA_, sB_, sC_])
            go_cut [18] (fun v18 wc => ∃ (kq : Nat) (x18_27 : Int), v18 = .int .i64 x18_27 ∧ Ja38_ (J35_.j6 kq a0 a1 a2 l3 l4 x12_2 x18_27 (decide (x16_20 > 0)) x13_2 (wrap64 (x13_2 + x16_20)) x14_2 (wrap64 (x14_2 + x16_20)) x15_2 (wrap64 (x15_2 + x16_20)) = some (r1, r2)) ∧ Ja38_ (kq ≤ kj20) ∧ Ja38_ (Kd.R k81 81 wc w.heap.size (fun k_ => k_ ≠ gb105) u12 x12_2) ∧ Ja38_ (wc.heap[gb105]? = some (.cells #[.bool (decide (x16_20 > 0)), .int .i64 x13_2, .int .i64 (wrap64 (x13_2 + x16_20)), .int .i64 x14_2, .int .i64 (wrap64 (x14_2 + x16_20)), .int .i64 x15_2, .int .i64 (wrap64 (x15_2 + x16_20))] 81 (0, 0))) ∧ Ja38_ (Below w.heap.size w wc))
            case first =>
             have H := HC28.out
             clear HC28
             have H' := Ja38_.mk H
             clear H
             go_wp2
             repeat (go_quiet (fail); try go_wp2)
             go_loopg [18] kj20 (fun kq v18 w' => ∃ (x18_5 : Int), v18 = .int .i64 x18_5 ∧ Ja38_ (J35_.l2 kq a0 a1 a2 l3 l4 x12_2 x14_2 x15_2 x18_5 (decide (x16_20 > 0)) x13_2 (wrap64 (x13_2 + x16_20)) x14_2 (wrap64 (x14_2 + x16_20)) x15_2 (wrap64 (x15_2 + x16_20)) = some (r1, r2)) ∧ Ja38_ (kq ≤ kj20) ∧ Ja38_ (Kd.R k81 81 w' w.heap.size (fun k_ => k_ ≠ gb105) u12 x12_2) ∧ Ja38_ (w'.heap[gb105]? = some (.cells #[.bool (decide (x16_20 > 0)), .int .i64 x13_2, .int .i64 (wrap64 (x13_2 + x16_20)), .int .i64 x14_2, .int .i64 (wrap64 (x14_2 + x16_20)), .int .i64 x15_2, .int .i64 (wrap64 (x15_2 + x16_20))] 81 (0, 0))) ∧ Ja38_ (Below w.heap.size w w'))
             case atStart => exact ⟨(x13_2), (by first | rfl | (simp; done) | (simp [*]; done)), H', ⟨Nat.le_refl _⟩, ⟨by (with_reducible repeat (first | apply Kd.R_alloc | apply Kd.R_drewN | apply Kd.R_drew)); exact Kd.R_mono (Kd.R_far (p := ⟨gb105, 6, none⟩) (Kd.R_far (p := ⟨gb105, 5, none⟩) (Kd.R_far (p := ⟨gb105, 4, none⟩) (Kd.R_far (p := ⟨gb105, 3, none⟩) (Kd.R_far (p := ⟨gb105, 2, none⟩) (Kd.R_far (p := ⟨gb105, 1, none⟩) (Kd.R_far (p := ⟨gb105, 0, none⟩) (Kd.R_mono HO_12.out (fun k_ hk => (⟨hk, hk.2⟩ : _ ∧ k_ ≠ gb105))) (fun _ hk => hk.2) (.bool (decide (x16_20 > 0)))) (fun _ hk => hk.2) (.int .i64 x13_2)) (fun _ hk => hk.2) (.int .i64 (wrap64 (x13_2 + x16_20)))) (fun _ hk => hk.2) (.int .i64 x14_2)) (fun _ hk => hk.2) (.int .i64 (wrap64 (x14_2 + x16_20)))) (fun _ hk => hk.2) (.int .i64 x15_2)) (fun _ hk => hk.2) (.int .i64 (wrap64 (x15_2 + x16_20)))) (fun _ hk => hk.1.2)⟩, ⟨by (with_reducible repeat (first | refine Ja50_ ?_ _ | refine Ja49_ ?_ | refine Ja48_ ?_ _)); refine blk_put (cs := #[.bool (decide (x16_20 > 0)), .int .i64 x13_2, .int .i64 (wrap64 (x13_2 + x16_20)), .int .i64 x14_2, .int .i64 (wrap64 (x14_2 + x16_20)), .int .i64 x15_2, .int .i64 0]) ?_ 6 _ rfl; (with_reducible repeat (first | refine Ja50_ ?_ _ | refine Ja49_ ?_ | refine Ja48_ ?_ _)); refine blk_put (cs := #[.bool (decide (x16_20 > 0)), .int .i64 x13_2, .int .i64 (wrap64 (x13_2 + x16_20)), .int .i64 x14_2, .int .i64 (wrap64 (x14_2 + x16_20)), .int .i64 0, .int .i64 0]) ?_ 5 _ rfl; (with_reducible repeat (first | refine Ja50_ ?_ _ | refine Ja49_ ?_ | refine Ja48_ ?_ _)); refine blk_put (cs := #[.bool (decide (x16_20 > 0)), .int .i64 x13_2, .int .i64 (wrap64 (x13_2 + x16_20)), .int .i64 x14_2, .int .i64 0, .int .i64 0, .int .i64 0]) ?_ 4 _ rfl; (with_reducible repeat (first | refine Ja50_ ?_ _ | refine Ja49_ ?_ | refine Ja48_ ?_ _)); refine blk_put (cs := #[.bool (decide (x16_20 > 0)), .int .i64 x13_2, .int .i64 (wrap64 (x13_2 + x16_20)), .int .i64 0, .int .i64 0, .int .i64 0, .int .i64 0]) ?_ 3 _ rfl; (with_reducible repeat (first | refine Ja50_ ?_ _ | refine Ja49_ ?_ | refine Ja48_ ?_ _)); refine blk_put (cs := #[.bool (decide (x16_20 > 0)), .int .i64 x13_2, .int .i64 0, .int .i64 0, .int .i64 0, .int .i64 0, .int .i64 0]) ?_ 2 _ rfl; (with_reducible repeat (first | refine Ja50_ ?_ _ | refine Ja49_ ?_ | refine Ja48_ ?_ _)); refine blk_put (cs := #[.bool (decide (x16_20 > 0)), .int .i64 0, .int .i64 0, .int .i64 0, .int .i64 0, .int .i64 0, .int .i64 0]) ?_ 1 _ rfl; (with_reducible repeat (first | refine Ja50_ ?_ _ | refine Ja49_ ?_ | refine Ja48_ ?_ _)); refine blk_put (cs := #[.bool false, .int .i64 0, .int .i64 0, .int .i64 0, .int .i64 0, .int .i64 0, .int .i64 0]) ?_ 0 _ rfl; (with_reducible repeat (first | refine Ja50_ ?_ _ | refine Ja49_ ?_ | refine Ja48_ ?_ _)); exact BK105.out⟩, ⟨by repeat (first | (with_reducible first | exact HB.out | apply Ja43_ | apply Ja41_ | apply Ja42_ | refine Ja46_ ?_ GE105.out) | exact HB.out)⟩⟩
             case round =>
              clear H'
              try clear c1
              try clear c2
              try clear p2
              try clear c3
              try clear c4
              try clear c5
              try clear p6
              try clear c7
              try clear c7b0
              try clear c8
              try clear c8b0
              try clear c9
              try clear c9b0
              try clear c11
              try clear c16
              try clear c18
              try clear c18b0
              try clear c19
              try clear c19b0
              try clear c20
              try clear c22
              try clear c22b0
              try clear c24
              try clear c24b0
              try clear c24b1
              try clear c26
              try clear c26b0
              try clear c26b1
              try clear c27
              try clear c27b0
              try clear c27b1
              try clear hcz30_0
              try clear hcz30_1
              try clear hcz30_2
              try clear hcz30_3
              try clear hcz30_4
              try clear hcz30_5
              try clear hcz30_6
              try clear hfz30_0
              try clear hfz30_1
              try clear hfz30_2
              try clear hfz30_3
              try clear hfz30_4
              try clear hfz30_5
              try clear hfz30_6
              try clear p2
              try clear p6
              obtain ⟨x18_5, rfl, HA, HK5, HO_12, BK105, HB⟩ := hrel
              cases gk with
              | zero => exact absurd HA.out (by simp [J35_.l2])
              | succ k5 =>
               have H := HA.out
               clear HA
               simp only [J35_.l2] at H
               by_cases c31 : x18_5 < a0
               ·rw [if_pos c31] at H
                have c31b0 : decide (x18_5 < a0) = true := decide_eq_true c31
                clear c31
                (first | rw [c31b0] | (simp only [i64_w, i32_w]; rw [c31b0]) | skip)
                replace H := Option.bind_eq_some_iff.mp H
                obtain ⟨t106, A320, H⟩ := H
                replace H : (if t106 < x14_2 then (J35_.l2 k5 a0 a1 a2 l3 l4 x12_2 x14_2 x15_2 (wrap64 (x18_5 + 1)) (decide (x16_20 > 0)) x13_2 (wrap64 (x13_2 + x16_20)) x14_2 (wrap64 (x14_2 + x16_20)) x15_2 (wrap64 (x15_2 + x16_20))) else ((J36_.f k5 l4 x18_5).bind fun t107 => (if t107 < x15_2 then (J35_.l2 k5 a0 a1 a2 l3 l4 x12_2 x14_2 x15_2 (wrap64 (x18_5 + 1)) (decide (x16_20 > 0)) x13_2 (wrap64 (x13_2 + x16_20)) x14_2 (wrap64 (x14_2 + x16_20)) x15_2 (wrap64 (x15_2 + x16_20))) else (J35_.j6 k5 a0 a1 a2 l3 l4 x12_2 x18_5 (decide (x16_20 > 0)) x13_2 (wrap64 (x13_2 + x16_20)) x14_2 (wrap64 (x14_2 + x16_20)) x15_2 (wrap64 (x15_2 + x16_20)))))) = some (r1, r2) := H
                have A32 := Ja38_.mk A320
                clear A320
                by_cases c33 : t106 < x14_2
                ·rw [if_pos c33] at H
                 have c33b0 : decide (t106 < x14_2) = true := decide_eq_true c33
                 clear c33
                 have H' := Ja38_.mk H
                 clear H
                 go_wp2_with (first | (go_at_call 95; (with_reducible refine (J36_.calls k5 _ _ l3 x18_5 t106 _ ?side1 ?side2 A32.out).mono ?_); (case side1 => repeat (first | exact (Kd.C_below HR3.out HB.out) | (with_reducible refine Kd.C_alloc ?_ _) | (with_reducible refine Kd.C_drewN ?_ _) | (with_reducible refine Kd.C_drew ?_))); (case side2 => exact HC3.out); rintro e w' ⟨rfl, ⟨nd, rfl⟩⟩; (try first | exact ⟨rfl, _, World.drewN_drewN _ _ _⟩ | exact ⟨rfl, _, Eq.trans (World.drewN_drewN _ _ _) (congrArg (World.drewN _) (Nat.add_assoc _ _ _))⟩)))
                 repeat (go_quiet (first | (go_at_call 95; (with_reducible refine (J36_.calls k5 _ _ l3 x18_5 t106 _ ?side1 ?side2 A32.out).mono ?_); (case side1 => repeat (first | exact (Kd.C_below HR3.out HB.out) | (with_reducible refine Kd.C_alloc ?_ _) | (with_reducible refine Kd.C_drewN ?_ _) | (with_reducible refine Kd.C_drew ?_))); (case side2 => exact HC3.out); rintro e w' ⟨rfl, ⟨nd, rfl⟩⟩; (try first | exact ⟨rfl, _, World.drewN_drewN _ _ _⟩ | exact ⟨rfl, _, Eq.trans (World.drewN_drewN _ _ _) (congrArg (World.drewN _) (Nat.add_assoc _ _ _))⟩))); try go_wp2_with (first | (go_at_call 95; (with_reducible refine (J36_.calls k5 _ _ l3 x18_5 t106 _ ?side1 ?side2 A32.out).mono ?_); (case side1 => repeat (first | exact (Kd.C_below HR3.out HB.out) | (with_reducible refine Kd.C_alloc ?_ _) | (with_reducible refine Kd.C_drewN ?_ _) | (with_reducible refine Kd.C_drew ?_))); (case side2 => exact HC3.out); rintro e w' ⟨rfl, ⟨nd, rfl⟩⟩; (try first | exact ⟨rfl, _, World.drewN_drewN _ _ _⟩ | exact ⟨rfl, _, Eq.trans (World.drewN_drewN _ _ _) (congrArg (World.drewN _) (Nat.add_assoc _ _ _))⟩))))
                 go_roundg k5
                 case measure => have := HJ5.out; have := HK2.out; have := HJ16.out; have := HJ20.out; have := HK5.out; omega
                 case rel => exact ⟨(wrap64 (x18_5 + 1)), (by first | rfl | (simp; done) | (simp [*]; done)), H', ⟨by have := HJ5.out; have := HK2.out; have := HJ16.out; have := HJ20.out; have := HK5.out; omega⟩, ⟨by (with_reducible repeat (first | apply Kd.R_alloc | apply Kd.R_drewN | apply Kd.R_drew)); exact HO_12.out⟩, ⟨by (with_reducible repeat (first | refine Ja50_ ?_ _ | refine Ja49_ ?_ | refine Ja48_ ?_ _)); exact BK105.out⟩, ⟨by repeat (first | (with_reducible first | exact HB.out | apply Ja43_ | apply Ja41_ | apply Ja42_ | refine Ja46_ ?_ GE105.out) | exact HB.out)⟩⟩
                ·rw [if_neg c33] at H
                 have c33b0 : decide (t106 < x14_2) = false := decide_eq_false c33
                 clear c33
                 replace H := Option.bind_eq_some_iff.mp H
                 obtain ⟨t107, A340, H⟩ := H
                 replace H : (if t107 < x15_2 then (J35_.l2 k5 a0 a1 a2 l3 l4 x12_2 x14_2 x15_2 (wrap64 (x18_5 + 1)) (decide (x16_20 > 0)) x13_2 (wrap64 (x13_2 + x16_20)) x14_2 (wrap64 (x14_2 + x16_20)) x15_2 (wrap64 (x15_2 + x16_20))) else (J35_.j6 k5 a0 a1 a2 l3 l4 x12_2 x18_5 (decide (x16_20 > 0)) x13_2 (wrap64 (x13_2 + x16_20)) x14_2 (wrap64 (x14_2 + x16_20)) x15_2 (wrap64 (x15_2 + x16_20)))) = some (r1, r2) := H
                 have A34 := Ja38_.mk A340
                 clear A340
                 by_cases c35 : t107 < x15_2
                 ·rw [if_pos c35] at H
                  have c35b0 : decide (t107 < x15_2) = true := decide_eq_true c35
                  clear c35
                  have H' := Ja38_.mk H
                  clear H
                  go_wp2_with (first | (go_at_call 95; (with_reducible refine (J36_.calls k5 _ _ l3 x18_5 t106 _ ?side1 ?side2 A32.out).mono ?_); (case side1 => repeat (first | exact (Kd.C_below HR3.out HB.out) | (with_reducible refine Kd.C_alloc ?_ _) | (with_reducible refine Kd.C_drewN ?_ _) | (with_reducible refine Kd.C_drew ?_))); (case side2 => exact HC3.out); rintro e w' ⟨rfl, ⟨nd, rfl⟩⟩; (try first | exact ⟨rfl, _, World.drewN_drewN _ _ _⟩ | exact ⟨rfl, _, Eq.trans (World.drewN_drewN _ _ _) (congrArg (World.drewN _) (Nat.add_assoc _ _ _))⟩)) | (go_at_call 95; (with_reducible refine (J36_.calls k5 _ _ l4 x18_5 t107 _ ?side1 ?side2 A34.out).mono ?_); (case side1 => repeat (first | exact (Kd.C_below HR4.out (by repeat (first | (with_reducible first | exact HB.out | apply Ja43_ | apply Ja41_ | apply Ja42_ | refine Ja46_ ?_ GE105.out) | exact HB.out))) | (with_reducible refine Kd.C_alloc ?_ _) | (with_reducible refine Kd.C_drewN ?_ _) | (with_reducible refine Kd.C_drew ?_))); (case side2 => exact HC4.out); rintro e w' ⟨rfl, ⟨nd, rfl⟩⟩; (try first | exact ⟨rfl, _, World.drewN_drewN _ _ _⟩ | exact ⟨rfl, _, Eq.trans (World.drewN_drewN _ _ _) (congrArg (World.drewN _) (Nat.add_assoc _ _ _))⟩)))
                  repeat (go_quiet (first | (go_at_call 95; (with_reducible refine (J36_.calls k5 _ _ l3 x18_5 t106 _ ?side1 ?side2 A32.out).mono ?_); (case side1 => repeat (first | exact (Kd.C_below HR3.out HB.out) | (with_reducible refine Kd.C_alloc ?_ _) | (with_reducible refine Kd.C_drewN ?_ _) | (with_reducible refine Kd.C_drew ?_))); (case side2 => exact HC3.out); rintro e w' ⟨rfl, ⟨nd, rfl⟩⟩; (try first | exact ⟨rfl, _, World.drewN_drewN _ _ _⟩ | exact ⟨rfl, _, Eq.trans (World.drewN_drewN _ _ _) (congrArg (World.drewN _) (Nat.add_assoc _ _ _))⟩)) | (go_at_call 95; (with_reducible refine (J36_.calls k5 _ _ l4 x18_5 t107 _ ?side1 ?side2 A34.out).mono ?_); (case side1 => repeat (first | exact (Kd.C_below HR4.out (by repeat (first | (with_reducible first | exact HB.out | apply Ja43_ | apply Ja41_ | apply Ja42_ | refine Ja46_ ?_ GE105.out) | exact HB.out))) | (with_reducible refine Kd.C_alloc ?_ _) | (with_reducible refine Kd.C_drewN ?_ _) | (with_reducible refine Kd.C_drew ?_))); (case side2 => exact HC4.out); rintro e w' ⟨rfl, ⟨nd, rfl⟩⟩; (try first | exact ⟨rfl, _, World.drewN_drewN _ _ _⟩ | exact ⟨rfl, _, Eq.trans (World.drewN_drewN _ _ _) (congrArg (World.drewN _) (Nat.add_assoc _ _ _))⟩))); try go_wp2_with (first | (go_at_call 95; (with_reducible refine (J36_.calls k5 _ _ l3 x18_5 t106 _ ?side1 ?side2 A32.out).mono ?_); (case side1 => repeat (first | exact (Kd.C_below HR3.out HB.out) | (with_reducible refine Kd.C_alloc ?_ _) | (with_reducible refine Kd.C_drewN ?_ _) | (with_reducible refine Kd.C_drew ?_))); (case side2 => exact HC3.out); rintro e w' ⟨rfl, ⟨nd, rfl⟩⟩; (try first | exact ⟨rfl, _, World.drewN_drewN _ _ _⟩ | exact ⟨rfl, _, Eq.trans (World.drewN_drewN _ _ _) (congrArg (World.drewN _) (Nat.add_assoc _ _ _))⟩)) | (go_at_call 95; (with_reducible refine (J36_.calls k5 _ _ l4 x18_5 t107 _ ?side1 ?side2 A34.out).mono ?_); (case side1 => repeat (first | exact (Kd.C_below HR4.out (by repeat (first | (with_reducible first | exact HB.out | apply Ja43_ | apply Ja41_ | apply Ja42_ | refine Ja46_ ?_ GE105.out) | exact HB.out))) | (with_reducible refine Kd.C_alloc ?_ _) | (with_reducible refine Kd.C_drewN ?_ _) | (with_reducible refine Kd.C_drew ?_))); (case side2 => exact HC4.out); rintro e w' ⟨rfl, ⟨nd, rfl⟩⟩; (try first | exact ⟨rfl, _, World.drewN_drewN _ _ _⟩ | exact ⟨rfl, _, Eq.trans (World.drewN_drewN _ _ _) (congrArg (World.drewN _) (Nat.add_assoc _ _ _))⟩))))
                  go_roundg k5
                  case measure => have := HJ5.out; have := HK2.out; have := HJ16.out; have := HJ20.out; have := HK5.out; omega
                  case rel => exact ⟨(wrap64 (x18_5 + 1)), (by first | rfl | (simp; done) | (simp [*]; done)), H', ⟨by have := HJ5.out; have := HK2.out; have := HJ16.out; have := HJ20.out; have := HK5.out; omega⟩, ⟨by (with_reducible repeat (first | apply Kd.R_alloc | apply Kd.R_drewN | apply Kd.R_drew)); exact HO_12.out⟩, ⟨by (with_reducible repeat (first | refine Ja50_ ?_ _ | refine Ja49_ ?_ | refine Ja48_ ?_ _)); exact BK105.out⟩, ⟨by repeat (first | (with_reducible first | exact HB.out | apply Ja43_ | apply Ja41_ | apply Ja42_ | refine Ja46_ ?_ GE105.out) | exact HB.out)⟩⟩
                 ·rw [if_neg c35] at H
                  have c35b0 : decide (t107 < x15_2) = false := decide_eq_false c35
                  clear c35
                  have H' := Ja38_.mk H
                  clear H
                  go_wp2_with (first | (go_at_call 95; (with_reducible refine (J36_.calls k5 _ _ l3 x18_5 t106 _ ?side1 ?side2 A32.out).mono ?_); (case side1 => repeat (first | exact (Kd.C_below HR3.out HB.out) | (with_reducible refine Kd.C_alloc ?_ _) | (with_reducible refine Kd.C_drewN ?_ _) | (with_reducible refine Kd.C_drew ?_))); (case side2 => exact HC3.out); rintro e w' ⟨rfl, ⟨nd, rfl⟩⟩; (try first | exact ⟨rfl, _, World.drewN_drewN _ _ _⟩ | exact ⟨rfl, _, Eq.trans (World.drewN_drewN _ _ _) (congrArg (World.drewN _) (Nat.add_assoc _ _ _))⟩)) | (go_at_call 95; (with_reducible refine (J36_.calls k5 _ _ l4 x18_5 t107 _ ?side1 ?side2 A34.out).mono ?_); (case side1 => repeat (first | exact (Kd.C_below HR4.out (by repeat (first | (with_reducible first | exact HB.out | apply Ja43_ | apply Ja41_ | apply Ja42_ | refine Ja46_ ?_ GE105.out) | exact HB.out))) | (with_reducible refine Kd.C_alloc ?_ _) | (with_reducible refine Kd.C_drewN ?_ _) | (with_reducible refine Kd.C_drew ?_))); (case side2 => exact HC4.out); rintro e w' ⟨rfl, ⟨nd, rfl⟩⟩; (try first | exact ⟨rfl, _, World.drewN_drewN _ _ _⟩ | exact ⟨rfl, _, Eq.trans (World.drewN_drewN _ _ _) (congrArg (World.drewN _) (Nat.add_assoc _ _ _))⟩)))
                  repeat (go_quiet (first | (go_at_call 95; (with_reducible refine (J36_.calls k5 _ _ l3 x18_5 t106 _ ?side1 ?side2 A32.out).mono ?_); (case side1 => repeat (first | exact (Kd.C_below HR3.out HB.out) | (with_reducible refine Kd.C_alloc ?_ _) | (with_reducible refine Kd.C_drewN ?_ _) | (with_reducible refine Kd.C_drew ?_))); (case side2 => exact HC3.out); rintro e w' ⟨rfl, ⟨nd, rfl⟩⟩; (try first | exact ⟨rfl, _, World.drewN_drewN _ _ _⟩ | exact ⟨rfl, _, Eq.trans (World.drewN_drewN _ _ _) (congrArg (World.drewN _) (Nat.add_assoc _ _ _))⟩)) | (go_at_call 95; (with_reducible refine (J36_.calls k5 _ _ l4 x18_5 t107 _ ?side1 ?side2 A34.out).mono ?_); (case side1 => repeat (first | exact (Kd.C_below HR4.out (by repeat (first | (with_reducible first | exact HB.out | apply Ja43_ | apply Ja41_ | apply Ja42_ | refine Ja46_ ?_ GE105.out) | exact HB.out))) | (with_reducible refine Kd.C_alloc ?_ _) | (with_reducible refine Kd.C_drewN ?_ _) | (with_reducible refine Kd.C_drew ?_))); (case side2 => exact HC4.out); rintro e w' ⟨rfl, ⟨nd, rfl⟩⟩; (try first | exact ⟨rfl, _, World.drewN_drewN _ _ _⟩ | exact ⟨rfl, _, Eq.trans (World.drewN_drewN _ _ _) (congrArg (World.drewN _) (Nat.add_assoc _ _ _))⟩))); try go_wp2_with (first | (go_at_call 95; (with_reducible refine (J36_.calls k5 _ _ l3 x18_5 t106 _ ?side1 ?side2 A32.out).mono ?_); (case side1 => repeat (first | exact (Kd.C_below HR3.out HB.out) | (with_reducible refine Kd.C_alloc ?_ _) | (with_reducible refine Kd.C_drewN ?_ _) | (with_reducible refine Kd.C_drew ?_))); (case side2 => exact HC3.out); rintro e w' ⟨rfl, ⟨nd, rfl⟩⟩; (try first | exact ⟨rfl, _, World.drewN_drewN _ _ _⟩ | exact ⟨rfl, _, Eq.trans (World.drewN_drewN _ _ _) (congrArg (World.drewN _) (Nat.add_assoc _ _ _))⟩)) | (go_at_call 95; (with_reducible refine (J36_.calls k5 _ _ l4 x18_5 t107 _ ?side1 ?side2 A34.out).mono ?_); (case side1 => repeat (first | exact (Kd.C_below HR4.out (by repeat (first | (with_reducible first | exact HB.out | apply Ja43_ | apply Ja41_ | apply Ja42_ | refine Ja46_ ?_ GE105.out) | exact HB.out))) | (with_reducible refine Kd.C_alloc ?_ _) | (with_reducible refine Kd.C_drewN ?_ _) | (with_reducible refine Kd.C_drew ?_))); (case side2 => exact HC4.out); rintro e w' ⟨rfl, ⟨nd, rfl⟩⟩; (try first | exact ⟨rfl, _, World.drewN_drewN _ _ _⟩ | exact ⟨rfl, _, Eq.trans (World.drewN_drewN _ _ _) (congrArg (World.drewN _) (Nat.add_assoc _ _ _))⟩))))
                  go_meet
                  case rel => exact ⟨_, (x18_5), (by first | rfl | (simp; done) | (simp [*]; done)), H', ⟨by have := HJ5.out; have := HK2.out; have := HJ16.out; have := HJ20.out; have := HK5.out; first | omega | exact Nat.le_refl _⟩, ⟨by (with_reducible repeat (first | apply Kd.R_alloc | apply Kd.R_drewN | apply Kd.R_drew)); exact HO_12.out⟩, ⟨by (with_reducible repeat (first | refine Ja50_ ?_ _ | refine Ja49_ ?_ | refine Ja48_ ?_ _)); exact BK105.out⟩, ⟨by repeat (first | (with_reducible first | exact HB.out | apply Ja43_ | apply Ja41_ | apply Ja42_ | refine Ja46_ ?_ GE105.out) | exact HB.out)⟩⟩
               ·rw [if_neg c31] at H
                have c31b0 : decide (x18_5 < a0) = false := decide_eq_false c31
                clear c31
                (first | rw [c31b0] | (simp only [i64_w, i32_w]; rw [c31b0]) | skip)
                have H' := Ja38_.mk H
                clear H
                go_wp2
                repeat (go_quiet (fail); try go_wp2)
                go_meet
                case rel => exact ⟨_, (x18_5), (by first | rfl | (simp; done) | (simp [*]; done)), H', ⟨by have := HJ5.out; have := HK2.out; have := HJ16.out; have := HJ20.out; have := HK5.out; first | omega | exact Nat.le_refl _⟩, ⟨by (with_reducible repeat (first | apply Kd.R_alloc | apply Kd.R_drewN | apply Kd.R_drew)); exact HO_12.out⟩, ⟨by (with_reducible repeat (first | refine Ja50_ ?_ _ | refine Ja49_ ?_ | refine Ja48_ ?_ _)); exact BK105.out⟩, ⟨by repeat (first | (with_reducible first | exact HB.out | apply Ja43_ | apply Ja41_ | apply Ja42_ | refine Ja46_ ?_ GE105.out) | exact HB.out)⟩⟩
            case rest =>
             clear HC28
             try clear c1
             try clear c2
             try clear p2
             try clear c3
             try clear c4
             try clear c5
             try clear p6
             try clear c7
             try clear c7b0
             try clear c8
             try clear c8b0
             try clear c9
             try clear c9b0
             try clear c11
             try clear c16
             try clear c18
             try clear c18b0
             try clear c19
             try clear c19b0
             try clear c20
             try clear c22
             try clear c22b0
             try clear c24
             try clear c24b0
             try clear c24b1
             try clear c26
             try clear c26b0
             try clear c26b1
             try clear c27
             try clear c27b0
             try clear c27b1
             try clear c31
             try clear c31b0
             try clear c33
             try clear c33b0
             try clear c35
             try clear c35b0
             try clear hcz30_0
             try clear hcz30_1
             try clear hcz30_2
             try clear hcz30_3
             try clear hcz30_4
             try clear hcz30_5
             try clear hcz30_6
             try clear hfz30_0
             try clear hfz30_1
             try clear hfz30_2
             try clear hfz30_3
             try clear hfz30_4
             try clear hfz30_5
             try clear hfz30_6
             try clear p2
             try clear p6
             obtain ⟨kq, x18_27, rfl, HA, HJ27, HO_12, BK105, HB⟩ := hcut
             cases kq with
             | zero => exact absurd HA.out (by simp [J35_.j6])
             | succ kj27 =>
              have H := HA.out
              clear HA
              simp only [J35_.j6] at H
              by_cases c36 : x18_27 < a0
              ·rw [if_pos c36] at H
               have c36b0 : decide (x18_27 < a0) = true := decide_eq_true c36
               clear c36
               replace H := Option.bind_eq_some_iff.mp H
               obtain ⟨t108, A370, H⟩ := H
               replace H : ((J36_.f kj27 l4 x18_27).bind fun t109 => (if x12_2.length < 2513169434916 then (J35_.l0 kj27 a0 a1 a2 l3 l4 (x12_2 ++ [(⟨(decide (x16_20 > 0)), (⟨x13_2, x18_27⟩ : S79), (⟨x14_2, t108⟩ : S79), (⟨x15_2, t109⟩ : S79)⟩ : S81)]) x18_27 t108 t109) else (none))) = some (r1, r2) := H
               have A37 := Ja38_.mk A370
               clear A370
               replace H := Option.bind_eq_some_iff.mp H
               obtain ⟨t109, A380, H⟩ := H
               replace H : (if x12_2.length < 2513169434916 then (J35_.l0 kj27 a0 a1 a2 l3 l4 (x12_2 ++ [(⟨(decide (x16_20 > 0)), (⟨x13_2, x18_27⟩ : S79), (⟨x14_2, t108⟩ : S79), (⟨x15_2, t109⟩ : S79)⟩ : S81)]) x18_27 t108 t109) else (none)) = some (r1, r2) := H
               have A38 := Ja38_.mk A380
               clear A380
               by_cases c39 : x12_2.length < 2513169434916
               ·rw [if_pos c39] at H
                have LMc39 := Ja38_.mk c39
                clear c39
                obtain ⟨y110, hy110⟩ : ∃ y_ : List (S81), y_ = (x12_2 ++ [(⟨(decide (x16_20 > 0)), (⟨x13_2, x18_27⟩ : S79), (⟨x14_2, t108⟩ : S79), (⟨x15_2, t109⟩ : S79)⟩ : S81)]) := ⟨_, rfl⟩
                replace H : (J35_.l0 kj27 a0 a1 a2 l3 l4 y110 x18_27 t108 t109) = some (r1, r2) := by first | (rw [hy110]; with_reducible exact H) | (have H2_ := (Option.bind_some _ _).symm.trans H; rw [hy110]; with_reducible exact H2_) | (have H2_ := (Option.bind_some _ _).symm.trans H; with_reducible exact H2_) | with_reducible exact H | (rw [hy110]; exact H) | exact H
                have Ny110 := Ja38_.mk hy110
                clear hy110
                have H' := Ja38_.mk H
                clear H
                have hcz40_0 : wc.cell? ⟨gb105, 0, none⟩ = some (.bool (decide (x16_20 > 0))) := (Ja39_ BK105.out 0).trans rfl
                have hcz40_1 : wc.cell? ⟨gb105, 1, none⟩ = some (.int .i64 x13_2) := (Ja39_ BK105.out 1).trans rfl
                have hcz40_2 : wc.cell? ⟨gb105, 2, none⟩ = some (.int .i64 (wrap64 (x13_2 + x16_20))) := (Ja39_ BK105.out 2).trans rfl
                have hcz40_3 : wc.cell? ⟨gb105, 3, none⟩ = some (.int .i64 x14_2) := (Ja39_ BK105.out 3).trans rfl
                have hcz40_4 : wc.cell? ⟨gb105, 4, none⟩ = some (.int .i64 (wrap64 (x14_2 + x16_20))) := (Ja39_ BK105.out 4).trans rfl
                have hcz40_5 : wc.cell? ⟨gb105, 5, none⟩ = some (.int .i64 x15_2) := (Ja39_ BK105.out 5).trans rfl
                have hcz40_6 : wc.cell? ⟨gb105, 6, none⟩ = some (.int .i64 (wrap64 (x15_2 + x16_20))) := (Ja39_ BK105.out 6).trans rfl
                have hfz40_0 := Ja40_ BK105.out 0
                have hfz40_1 := Ja40_ BK105.out 1
                have hfz40_2 := Ja40_ BK105.out 2
                have hfz40_3 := Ja40_ BK105.out 3
                have hfz40_4 := Ja40_ BK105.out 4
                have hfz40_5 := Ja40_ BK105.out 5
                have hfz40_6 := Ja40_ BK105.out 6
                go_wp2_with fail
                have BK2 := Ja38_.mk (blk_put (blk_put (blk_put BK105.out 2 (.int .i64 a0) rfl) 4 (.int .i64 a1) rfl) 6 (.int .i64 a2) rfl)
                have HB2 := Ja38_.mk (Ja46_ (j := 6) (v := .int .i64 a2) (Ja46_ (j := 4) (v := .int .i64 a1) (Ja46_ (j := 2) (v := .int .i64 a0) HB.out GE105.out) GE105.out) GE105.out)
                have HO2 := Ja38_.mk (Kd.R_far (p := ⟨gb105, 6, none⟩) (Kd.R_far (p := ⟨gb105, 4, none⟩) (Kd.R_far (p := ⟨gb105, 2, none⟩) HO_12.out (fun _ hk => hk) (.int .i64 a0)) (fun _ hk => hk) (.int .i64 a1)) (fun _ hk => hk) (.int .i64 a2))
                generalize (((wc.setCell ⟨gb105, 2, none⟩ (.int .i64 a0)).setCell ⟨gb105, 4, none⟩ (.int .i64 a1)).setCell ⟨gb105, 6, none⟩ (.int .i64 a2)) = W2 at BK2 HB2 HO2 ⊢
                clear BK105 HB HO_12 hcz40_0 hfz40_0 hcz40_1 hfz40_1 hcz40_2 hfz40_2 hcz40_3 hfz40_3 hcz40_4 hfz40_4 hcz40_5 hfz40_5 hcz40_6 hfz40_6
                refine (J36_.calls kj27 A3 c3 l3 x18_27 t108 W2 (Kd.C_below HR3.out HB2.out) HC3.out A37.out).mono ?_
                rintro e w' ⟨rfl, ⟨nd, rfl⟩⟩
                have BK3 := Ja38_.mk (Ja50_ BK2.out nd)
                have HB3 := Ja38_.mk (Ja41_ HB2.out nd)
                have HO3 := Ja38_.mk (Kd.R_drewN HO2.out nd)
                generalize W2.drewN nd = W3 at BK3 HB3 HO3 ⊢
                clear BK2 HB2 HO2
                go_wp2_with fail
                refine (J36_.calls kj27 A4 c4 l4 x18_27 t109 W3 (Kd.C_below HR4.out HB3.out) HC4.out A38.out).mono ?_
                rintro e w' ⟨rfl, ⟨nd, rfl⟩⟩
                have BK4 := Ja38_.mk (Ja50_ BK3.out nd)
                have HB4 := Ja38_.mk (Ja41_ HB3.out nd)
                have HO4 := Ja38_.mk (Kd.R_drewN HO3.out nd)
                generalize W3.drewN nd = W4 at BK4 HB4 HO4 ⊢
                clear BK3 HB3 HO3
                have hc0 : W4.cell? ⟨gb105, 0, none⟩ = some (.bool (decide (x16_20 > 0))) := (Ja39_ BK4.out 0).trans rfl
                have hc1 : W4.cell? ⟨gb105, 1, none⟩ = some (.int .i64 x13_2) := (Ja39_ BK4.out 1).trans rfl
                have hc2 : W4.cell? ⟨gb105, 2, none⟩ = some (.int .i64 a0) := (Ja39_ BK4.out 2).trans rfl
                have hc3 : W4.cell? ⟨gb105, 3, none⟩ = some (.int .i64 x14_2) := (Ja39_ BK4.out 3).trans rfl
                have hc4 : W4.cell? ⟨gb105, 4, none⟩ = some (.int .i64 a1) := (Ja39_ BK4.out 4).trans rfl
                have hc5 : W4.cell? ⟨gb105, 5, none⟩ = some (.int .i64 x15_2) := (Ja39_ BK4.out 5).trans rfl
                have hc6 : W4.cell? ⟨gb105, 6, none⟩ = some (.int .i64 a2) := (Ja39_ BK4.out 6).trans rfl
                have hf0 := Ja40_ BK4.out 0
                have hf1 := Ja40_ BK4.out 1
                have hf2 := Ja40_ BK4.out 2
                have hf3 := Ja40_ BK4.out 3
                have hf4 := Ja40_ BK4.out 4
                have hf5 := Ja40_ BK4.out 5
                have hf6 := Ja40_ BK4.out 6
                have BK5 := Ja38_.mk (blk_put (blk_put (blk_put BK4.out 2 (.int .i64 x18_27) rfl) 4 (.int .i64 t108) rfl) 6 (.int .i64 t109) rfl)
                have HB5 := Ja38_.mk (Ja46_ (j := 6) (v := .int .i64 t109) (Ja46_ (j := 4) (v := .int .i64 t108) (Ja46_ (j := 2) (v := .int .i64 x18_27) HB4.out GE105.out) GE105.out) GE105.out)
                have HO5 := Ja38_.mk (Kd.R_far (p := ⟨gb105, 6, none⟩) (Kd.R_far (p := ⟨gb105, 4, none⟩) (Kd.R_far (p := ⟨gb105, 2, none⟩) HO4.out (fun _ hk => hk) (.int .i64 x18_27)) (fun _ hk => hk) (.int .i64 t108)) (fun _ hk => hk) (.int .i64 t109))
                go_wp2_with (first | ((with_reducible refine gate_builtin (b := .append) (xs := #[.tmp 150, .tmp 152]) rfl ?_); at_builtin; refine Kd.R_append k81 (w0 := w) w.heap.size rfl (.tmp 150) (.tmp 152) 70 81 (.agg #[(.bool false), (.int .i64 0), (.int .i64 0), (.int .i64 0), (.int .i64 0), (.int .i64 0), (.int .i64 0)]) 56 rfl Try.underlying70 info81 rfl (by decide) (by omega) u12 x12_2 (⟨(decide (x16_20 > 0)), (⟨x13_2, x18_27⟩ : S79), (⟨x14_2, t108⟩ : S79), (⟨x15_2, t109⟩ : S79)⟩ : S81) [.bool (decide (x16_20 > 0)), .int .i64 x13_2, .int .i64 x18_27, .int .i64 x14_2, .int .i64 t108, .int .i64 x15_2, .int .i64 t109] (fun k_ => k_ ≠ gb105) (fun _ => False) rfl (by first | (go_simp; done) | (go_simp; rfl)) ?aP (fun _ hk => hk.elim) ?aF ?aO ?aB ?aS ?aL ?_; (case aP => exact k81_mkM _ _ _ (⟨(decide (x16_20 > 0)), (⟨x13_2, x18_27⟩ : S79), (⟨x14_2, t108⟩ : S79), (⟨x15_2, t109⟩ : S79)⟩ : S81)); (case aB => exact HB5.out); (case aF => exact (fun k_ hk => Kd.freshB (g := gb105) (o := .cells #[.bool (decide (x16_20 > 0)), .int .i64 x13_2, .int .i64 x18_27, .int .i64 x14_2, .int .i64 t108, .int .i64 x15_2, .int .i64 t109] 81 (0, 0)) BK5.out k_ hk)); (case aO => exact HO5.out); (case aS => exact Ja45_ HB5.out); (case aL => have := LMc39.out; omega); intro v6 w6 ho hb hg hat; rw [← Ny110.out] at ho; have BK6 := Ja38_.mk (blk_grown (g := gb105) (o := .cells #[.bool (decide (x16_20 > 0)), .int .i64 x13_2, .int .i64 x18_27, .int .i64 x14_2, .int .i64 t108, .int .i64 x15_2, .int .i64 t109] 81 (0, 0)) BK5.out hg (Kd.R_away HO5.out (fun _ hk => hk))); have HB6 := Ja38_.mk hb; have HO6 := Ja38_.mk ho; clear ho hb hg hat; have gc0 : w6.cell? ⟨gb105, 0, none⟩ = some (.bool (decide (x16_20 > 0))) := (Ja39_ BK6.out 0).trans rfl; have gc1 : w6.cell? ⟨gb105, 1, none⟩ = some (.int .i64 x13_2) := (Ja39_ BK6.out 1).trans rfl; have gc2 : w6.cell? ⟨gb105, 2, none⟩ = some (.int .i64 x18_27) := (Ja39_ BK6.out 2).trans rfl; have gc3 : w6.cell? ⟨gb105, 3, none⟩ = some (.int .i64 x14_2) := (Ja39_ BK6.out 3).trans rfl; have gc4 : w6.cell? ⟨gb105, 4, none⟩ = some (.int .i64 t108) := (Ja39_ BK6.out 4).trans rfl; have gc5 : w6.cell? ⟨gb105, 5, none⟩ = some (.int .i64 x15_2) := (Ja39_ BK6.out 5).trans rfl; have gc6 : w6.cell? ⟨gb105, 6, none⟩ = some (.int .i64 t109) := (Ja39_ BK6.out 6).trans rfl; have gf0 := Ja40_ BK6.out 0; have gf1 := Ja40_ BK6.out 1; have gf2 := Ja40_ BK6.out 2; have gf3 := Ja40_ BK6.out 3; have gf4 := Ja40_ BK6.out 4; have gf5 := Ja40_ BK6.out 5; have gf6 := Ja40_ BK6.out 6))
                go_quiet (fail)
                go_wp2_with fail
                go_roundg kj27
                case measure => have := HJ5.out; have := HK2.out; have := HJ16.out; have := HJ20.out; have := HJ27.out; omega
                case rel => exact ⟨(y110), (x18_27), (t108), (t109), (by first | rfl | (simp; done) | (simp [*]; done)), (by first | rfl | (simp; done) | (simp [*]; done)), (by first | rfl | (simp; done) | (simp [*]; done)), H', ⟨by have := HJ5.out; have := HK2.out; have := HJ16.out; have := HJ20.out; have := HJ27.out; omega⟩, ⟨by (with_reducible repeat (first | apply Kd.R_alloc | apply Kd.R_drewN | apply Kd.R_drew)); exact Kd.R_mono HO6.out (fun _ hk => trivial)⟩, ⟨by repeat (first | (with_reducible first | exact HB6.out | apply Ja43_ | apply Ja41_ | apply Ja42_ | refine Ja46_ ?_ GE105.out) | exact HB6.out)⟩⟩
               ·rw [if_neg c39] at H
                exact absurd H (by simp)
              ·rw [if_neg c36] at H
               have c36b0 : decide (x18_27 < a0) = false := decide_eq_false c36
               clear c36
               by_cases c43 : x12_2.length < 2513169434916
               ·rw [if_pos c43] at H
                have LMc43 := Ja38_.mk c43
                clear c43
                obtain ⟨y113, hy113⟩ : ∃ y_ : List (S81), y_ = (x12_2 ++ [(⟨(decide (x16_20 > 0)), (⟨x13_2, a0⟩ : S79), (⟨x14_2, a1⟩ : S79), (⟨x15_2, a2⟩ : S79)⟩ : S81)]) := ⟨_, rfl⟩
                replace H : (J35_.l0 kj27 a0 a1 a2 l3 l4 y113 a0 a1 a2) = some (r1, r2) := by first | (rw [hy113]; with_reducible exact H) | (have H2_ := (Option.bind_some _ _).symm.trans H; rw [hy113]; with_reducible exact H2_) | (have H2_ := (Option.bind_some _ _).symm.trans H; with_reducible exact H2_) | with_reducible exact H | (rw [hy113]; exact H) | exact H
                have Ny113 := Ja38_.mk hy113
                clear hy113
                have H' := Ja38_.mk H
                clear H
                have hcz44_0 : wc.cell? ⟨gb105, 0, none⟩ = some (.bool (decide (x16_20 > 0))) := (Ja39_ BK105.out 0).trans rfl
                have hcz44_1 : wc.cell? ⟨gb105, 1, none⟩ = some (.int .i64 x13_2) := (Ja39_ BK105.out 1).trans rfl
                have hcz44_2 : wc.cell? ⟨gb105, 2, none⟩ = some (.int .i64 (wrap64 (x13_2 + x16_20))) := (Ja39_ BK105.out 2).trans rfl
                have hcz44_3 : wc.cell? ⟨gb105, 3, none⟩ = some (.int .i64 x14_2) := (Ja39_ BK105.out 3).trans rfl
                have hcz44_4 : wc.cell? ⟨gb105, 4, none⟩ = some (.int .i64 (wrap64 (x14_2 + x16_20))) := (Ja39_ BK105.out 4).trans rfl
                have hcz44_5 : wc.cell? ⟨gb105, 5, none⟩ = some (.int .i64 x15_2) := (Ja39_ BK105.out 5).trans rfl
                have hcz44_6 : wc.cell? ⟨gb105, 6, none⟩ = some (.int .i64 (wrap64 (x15_2 + x16_20))) := (Ja39_ BK105.out 6).trans rfl
                have hfz44_0 := Ja40_ BK105.out 0
                have hfz44_1 := Ja40_ BK105.out 1
                have hfz44_2 := Ja40_ BK105.out 2
                have hfz44_3 := Ja40_ BK105.out 3
                have hfz44_4 := Ja40_ BK105.out 4
                have hfz44_5 := Ja40_ BK105.out 5
                have hfz44_6 := Ja40_ BK105.out 6
                have BK5 := Ja38_.mk (blk_put (blk_put (blk_put BK105.out 2 (.int .i64 a0) rfl) 4 (.int .i64 a1) rfl) 6 (.int .i64 a2) rfl)
                have HB5 := Ja38_.mk (Ja46_ (j := 6) (v := .int .i64 a2) (Ja46_ (j := 4) (v := .int .i64 a1) (Ja46_ (j := 2) (v := .int .i64 a0) HB.out GE105.out) GE105.out) GE105.out)
                have HO5 := Ja38_.mk (Kd.R_far (p := ⟨gb105, 6, none⟩) (Kd.R_far (p := ⟨gb105, 4, none⟩) (Kd.R_far (p := ⟨gb105, 2, none⟩) HO_12.out (fun _ hk => hk) (.int .i64 a0)) (fun _ hk => hk) (.int .i64 a1)) (fun _ hk => hk) (.int .i64 a2))
                go_wp2_with (first | ((with_reducible refine gate_builtin (b := .append) (xs := #[.tmp 150, .tmp 152]) rfl ?_); at_builtin; refine Kd.R_append k81 (w0 := w) w.heap.size rfl (.tmp 150) (.tmp 152) 70 81 (.agg #[(.bool false), (.int .i64 0), (.int .i64 0), (.int .i64 0), (.int .i64 0), (.int .i64 0), (.int .i64 0)]) 56 rfl Try.underlying70 info81 rfl (by decide) (by omega) u12 x12_2 (⟨(decide (x16_20 > 0)), (⟨x13_2, a0⟩ : S79), (⟨x14_2, a1⟩ : S79), (⟨x15_2, a2⟩ : S79)⟩ : S81) [.bool (decide (x16_20 > 0)), .int .i64 x13_2, .int .i64 a0, .int .i64 x14_2, .int .i64 a1, .int .i64 x15_2, .int .i64 a2] (fun k_ => k_ ≠ gb105) (fun _ => False) rfl (by first | (go_simp; done) | (go_simp; rfl)) ?aP (fun _ hk => hk.elim) ?aF ?aO ?aB ?aS ?aL ?_; (case aP => exact k81_mkM _ _ _ (⟨(decide (x16_20 > 0)), (⟨x13_2, a0⟩ : S79), (⟨x14_2, a1⟩ : S79), (⟨x15_2, a2⟩ : S79)⟩ : S81)); (case aB => exact HB5.out); (case aF => exact (fun k_ hk => Kd.freshB (g := gb105) (o := .cells #[.bool (decide (x16_20 > 0)), .int .i64 x13_2, .int .i64 a0, .int .i64 x14_2, .int .i64 a1, .int .i64 x15_2, .int .i64 a2] 81 (0, 0)) BK5.out k_ hk)); (case aO => exact HO5.out); (case aS => exact Ja45_ HB5.out); (case aL => have := LMc43.out; omega); intro v6 w6 ho hb hg hat; rw [← Ny113.out] at ho; have BK6 := Ja38_.mk (blk_grown (g := gb105) (o := .cells #[.bool (decide (x16_20 > 0)), .int .i64 x13_2, .int .i64 a0, .int .i64 x14_2, .int .i64 a1, .int .i64 x15_2, .int .i64 a2] 81 (0, 0)) BK5.out hg (Kd.R_away HO5.out (fun _ hk => hk))); have HB6 := Ja38_.mk hb; have HO6 := Ja38_.mk ho; clear ho hb hg hat; have gc0 : w6.cell? ⟨gb105, 0, none⟩ = some (.bool (decide (x16_20 > 0))) := (Ja39_ BK6.out 0).trans rfl; have gc1 : w6.cell? ⟨gb105, 1, none⟩ = some (.int .i64 x13_2) := (Ja39_ BK6.out 1).trans rfl; have gc2 : w6.cell? ⟨gb105, 2, none⟩ = some (.int .i64 a0) := (Ja39_ BK6.out 2).trans rfl; have gc3 : w6.cell? ⟨gb105, 3, none⟩ = some (.int .i64 x14_2) := (Ja39_ BK6.out 3).trans rfl; have gc4 : w6.cell? ⟨gb105, 4, none⟩ = some (.int .i64 a1) := (Ja39_ BK6.out 4).trans rfl; have gc5 : w6.cell? ⟨gb105, 5, none⟩ = some (.int .i64 x15_2) := (Ja39_ BK6.out 5).trans rfl; have gc6 : w6.cell? ⟨gb105, 6, none⟩ = some (.int .i64 a2) := (Ja39_ BK6.out 6).trans rfl; have gf0 := Ja40_ BK6.out 0; have gf1 := Ja40_ BK6.out 1; have gf2 := Ja40_ BK6.out 2; have gf3 := Ja40_ BK6.out 3; have gf4 := Ja40_ BK6.out 4; have gf5 := Ja40_ BK6.out 5; have gf6 := Ja40_ BK6.out 6))
                go_quiet (fail)
                go_wp2_with fail
                go_roundg kj27
                case measure => have := HJ5.out; have := HK2.out; have := HJ16.out; have := HJ20.out; have := HJ27.out; omega
                case rel => exact ⟨(y113), (a0), (a1), (a2), (by first | rfl | (simp; done) | (simp [*]; done)), (by first | rfl | (simp; done) | (simp [*]; done)), (by first | rfl | (simp; done) | (simp [*]; done)), H', ⟨by have := HJ5.out; have := HK2.out; have := HJ16.out; have := HJ20.out; have := HJ27.out; omega⟩, ⟨by (with_reducible repeat (first | apply Kd.R_alloc | apply Kd.R_drewN | apply Kd.R_drew)); exact Kd.R_mono HO6.out (fun _ hk => trivial)⟩, ⟨by repeat (first | (with_reducible first | exact HB6.out | apply Ja43_ | apply Ja41_ | apply Ja42_ | refine Ja46_ ?_ GE105.out) | exact HB6.out)⟩⟩
               ·rw [if_neg c43] at H
                exact absurd H (by simp)
           ·rw [if_neg c27] at H
            have c27b0 : (x16_20 == 0) = false := beq_eq_false_iff_ne.mpr c27
            have c27b1 : (x16_20 != 0) = true := bne_iff_ne.mpr c27
            by_cases c47 : x12_2.length < 2513169434916
            ·rw [if_pos c47] at H
             have LMc47 := Ja38_.mk c47
             clear c47
             obtain ⟨y116, hy116⟩ : ∃ y_ : List (S81), y_ = (x12_2 ++ [(⟨decide (x16_20 > 0), (⟨x13_2, wrap64 (x13_2 + x16_20)⟩ : S79), (⟨x14_2, wrap64 (x14_2 + x16_20)⟩ : S79), (⟨x15_2, wrap64 (x15_2 + x16_20)⟩ : S79)⟩ : S81)]) := ⟨_, rfl⟩
             replace H : (J35_.l0 kj20 a0 a1 a2 l3 l4 y116 (wrap64 (x13_2 + x16_20)) (wrap64 (x14_2 + x16_20)) (wrap64 (x15_2 + x16_20))) = some (r1, r2) := by first | (rw [hy116]; with_reducible exact H) | (have H2_ := (Option.bind_some _ _).symm.trans H; rw [hy116]; with_reducible exact H2_) | (have H2_ := (Option.bind_some _ _).symm.trans H; with_reducible exact H2_) | with_reducible exact H | (rw [hy116]; exact H) | exact H
             have Ny116 := Ja38_.mk hy116
             clear hy116
             have H' := Ja38_.mk H
             clear H
             go_wp2_with (first | ((with_reducible refine gate_dst (N := 17) rfl ?_); refine box_event ?hg (N := 17) ?hd (cs := #[.bool false, .int .i64 0, .int .i64 0, .int .i64 0, .int .i64 0, .int .i64 0, .int .i64 0]) (t := 81) ?hr ?_; (case hd => rfl); (case hg => rfl); (case hr => first | (go_simp; done) | (go_simp; rfl)); intro gb105 hg w48 hbox hb; have n0_ := Ja38_.mk (Kd.R_below (Kd.R_elderB (by (with_reducible repeat (first | apply Kd.R_alloc | apply Kd.R_drewN | apply Kd.R_drew)); exact HO_12.out) gb105 (Nat.le_of_eq hg.symm)) hb); have n1_ := Ja38_.mk (Ja44_ (by repeat (first | (with_reducible first | exact HB.out | apply Ja43_ | apply Ja41_ | apply Ja42_) | exact HB.out)) hb); have n2_ := Ja38_.mk (hbox); have n3_ := Ja38_.mk ((by rw [hg]; exact (Ja45_ (by repeat (first | (with_reducible first | exact HB.out | apply Ja43_ | apply Ja41_ | apply Ja42_) | exact HB.out))) : w.heap.size ≤ gb105)); have n4_ := Ja38_.mk ((by rw [hg]; exact (Ja45_ (by repeat (first | (with_reducible first | exact HB.out | apply Ja43_ | apply Ja41_ | apply Ja42_) | exact HB.out))) : w.heap.size ≤ gb105)); clear HO_12; clear HB; have HO_12 := n0_; have HB := n1_; have BK105 := n2_; have GW105 := n3_; have GE105 := n4_; clear n0_ n1_ n2_ n3_ n4_; clear hb hbox hg; have hcz49_0 : w48.cell? ⟨gb105, 0, none⟩ = some (.bool false) := (Ja39_ BK105.out 0).trans rfl; have hcz49_1 : w48.cell? ⟨gb105, 1, none⟩ = some (.int .i64 0) := (Ja39_ BK105.out 1).trans rfl; have hcz49_2 : w48.cell? ⟨gb105, 2, none⟩ = some (.int .i64 0) := (Ja39_ BK105.out 2).trans rfl; have hcz49_3 : w48.cell? ⟨gb105, 3, none⟩ = some (.int .i64 0) := (Ja39_ BK105.out 3).trans rfl; have hcz49_4 : w48.cell? ⟨gb105, 4, none⟩ = some (.int .i64 0) := (Ja39_ BK105.out 4).trans rfl; have hcz49_5 : w48.cell? ⟨gb105, 5, none⟩ = some (.int .i64 0) := (Ja39_ BK105.out 5).trans rfl; have hcz49_6 : w48.cell? ⟨gb105, 6, none⟩ = some (.int .i64 0) := (Ja39_ BK105.out 6).trans rfl; have hfz49_0 := Ja40_ BK105.out 0; have hfz49_1 := Ja40_ BK105.out 1; have hfz49_2 := Ja40_ BK105.out 2; have hfz49_3 := Ja40_ BK105.out 3; have hfz49_4 := Ja40_ BK105.out 4; have hfz49_5 := Ja40_ BK105.out 5; have hfz49_6 := Ja40_ BK105.out 6) | ((with_reducible refine gate_builtin (b := .append) (xs := #[.tmp 150, .tmp 152]) rfl ?_); at_builtin; refine Kd.R_append k81 (w0 := w) w.heap.size rfl (.tmp 150) (.tmp 152) 70 81 (.agg #[(.bool false), (.int .i64 0), (.int .i64 0), (.int .i64 0), (.int .i64 0), (.int .i64 0), (.int .i64 0)]) 56 rfl Try.underlying70 info81 rfl (by decide) (by omega) u12 x12_2 (⟨decide (x16_20 > 0), (⟨x13_2, wrap64 (x13_2 + x16_20)⟩ : S79), (⟨x14_2, wrap64 (x14_2 + x16_20)⟩ : S79), (⟨x15_2, wrap64 (x15_2 + x16_20)⟩ : S79)⟩ : S81) [.bool (decide (x16_20 > 0)), .int .i64 x13_2, .int .i64 (wrap64 (x13_2 + x16_20)), .int .i64 x14_2, .int .i64 (wrap64 (x14_2 + x16_20)), .int .i64 x15_2, .int .i64 (wrap64 (x15_2 + x16_20))] (fun k_ => k_ ≠ gb105) (fun _ => False) rfl (by first | (go_simp; done) | (go_simp; rfl)) ?aP (fun _ hk => hk.elim) ?aF ?aO ?aB ?aS ?aL ?_; (case aP => exact k81_mkM _ _ _ (⟨decide (x16_20 > 0), (⟨x13_2, wrap64 (x13_2 + x16_20)⟩ : S79), (⟨x14_2, wrap64 (x14_2 + x16_20)⟩ : S79), (⟨x15_2, wrap64 (x15_2 + x16_20)⟩ : S79)⟩ : S81)); (case aB => exact (by repeat (first | (with_reducible first | exact HB.out | apply Ja43_ | apply Ja41_ | apply Ja42_ | refine Ja46_ ?_ GE105.out) | exact HB.out))); (case aF => exact (fun k_ hk => Kd.freshB (g := gb105) (o := .cells #[.bool (decide (x16_20 > 0)), .int .i64 x13_2, .int .i64 (wrap64 (x13_2 + x16_20)), .int .i64 x14_2, .int .i64 (wrap64 (x14_2 + x16_20)), .int .i64 x15_2, .int .i64 (wrap64 (x15_2 + x16_20))] 81 (0, 0)) (by (with_reducible repeat (first | refine Ja50_ ?_ _ | refine Ja49_ ?_ | refine Ja48_ ?_ _)); refine blk_put (cs := #[.bool (decide (x16_20 > 0)), .int .i64 x13_2, .int .i64 (wrap64 (x13_2 + x16_20)), .int .i64 x14_2, .int .i64 (wrap64 (x14_2 + x16_20)), .int .i64 x15_2, .int .i64 0]) ?_ 6 _ rfl; (with_reducible repeat (first | refine Ja50_ ?_ _ | refine Ja49_ ?_ | refine Ja48_ ?_ _)); refine blk_put (cs := #[.bool (decide (x16_20 > 0)), .int .i64 x13_2, .int .i64 (wrap64 (x13_2 + x16_20)), .int .i64 x14_2, .int .i64 (wrap64 (x14_2 + x16_20)), .int .i64 0, .int .i64 0]) ?_ 5 _ rfl; (with_reducible repeat (first | refine Ja50_ ?_ _ | refine Ja49_ ?_ | refine Ja48_ ?_ _)); refine blk_put (cs := #[.bool (decide (x16_20 > 0)), .int .i64 x13_2, .int .i64 (wrap64 (x13_2 + x16_20)), .int .i64 x14_2, .int .i64 0, .int .i64 0, .int .i64 0]) ?_ 4 _ rfl; (with_reducible repeat (first | refine Ja50_ ?_ _ | refine Ja49_ ?_ | refine Ja48_ ?_ _)); refine blk_put (cs := #[.bool (decide (x16_20 > 0)), .int .i64 x13_2, .int .i64 (wrap64 (x13_2 + x16_20)), .int .i64 0, .int .i64 0, .int .i64 0, .int .i64 0]) ?_ 3 _ rfl; (with_reducible repeat (first | refine Ja50_ ?_ _ | refine Ja49_ ?_ | refine Ja48_ ?_ _)); refine blk_put (cs := #[.bool (decide (x16_20 > 0)), .int .i64 x13_2, .int .i64 0, .int .i64 0, .int .i64 0, .int .i64 0, .int .i64 0]) ?_ 2 _ rfl; (with_reducible repeat (first | refine Ja50_ ?_ _ | refine Ja49_ ?_ | refine Ja48_ ?_ _)); refine blk_put (cs := #[.bool (decide (x16_20 > 0)), .int .i64 0, .int .i64 0, .int .i64 0, .int .i64 0, .int .i64 0, .int .i64 0]) ?_ 1 _ rfl; (with_reducible repeat (first | refine Ja50_ ?_ _ | refine Ja49_ ?_ | refine Ja48_ ?_ _)); refine blk_put (cs := #[.bool false, .int .i64 0, .int .i64 0, .int .i64 0, .int .i64 0, .int .i64 0, .int .i64 0]) ?_ 0 _ rfl; (with_reducible repeat (first | refine Ja50_ ?_ _ | refine Ja49_ ?_ | refine Ja48_ ?_ _)); exact BK105.out) k_ hk)); (case aO => exact (by (with_reducible repeat (first | apply Kd.R_alloc | apply Kd.R_drewN | apply Kd.R_drew)); exact Kd.R_mono (Kd.R_far (p := ⟨gb105, 6, none⟩) (Kd.R_far (p := ⟨gb105, 5, none⟩) (Kd.R_far (p := ⟨gb105, 4, none⟩) (Kd.R_far (p := ⟨gb105, 3, none⟩) (Kd.R_far (p := ⟨gb105, 2, none⟩) (Kd.R_far (p := ⟨gb105, 1, none⟩) (Kd.R_far (p := ⟨gb105, 0, none⟩) (Kd.R_mono HO_12.out (fun k_ hk => (⟨hk, hk.2⟩ : _ ∧ k_ ≠ gb105))) (fun _ hk => hk.2) (.bool (decide (x16_20 > 0)))) (fun _ hk => hk.2) (.int .i64 x13_2)) (fun _ hk => hk.2) (.int .i64 (wrap64 (x13_2 + x16_20)))) (fun _ hk => hk.2) (.int .i64 x14_2)) (fun _ hk => hk.2) (.int .i64 (wrap64 (x14_2 + x16_20)))) (fun _ hk => hk.2) (.int .i64 x15_2)) (fun _ hk => hk.2) (.int .i64 (wrap64 (x15_2 + x16_20)))) (fun _ hk => hk.1.2))); (case aS => exact (Ja45_ (by repeat (first | (with_reducible first | exact HB.out | apply Ja43_ | apply Ja41_ | apply Ja42_ | refine Ja46_ ?_ GE105.out) | exact HB.out)))); (case aL => have := LMc47.out; omega); intro v117 w50 ho hb hg hat; rw [← Ny116.out] at ho; have n0_ := Ja38_.mk (blk_grown (g := gb105) (o := .cells #[.bool (decide (x16_20 > 0)), .int .i64 x13_2, .int .i64 (wrap64 (x13_2 + x16_20)), .int .i64 x14_2, .int .i64 (wrap64 (x14_2 + x16_20)), .int .i64 x15_2, .int .i64 (wrap64 (x15_2 + x16_20))] 81 (0, 0)) (by (with_reducible repeat (first | refine Ja50_ ?_ _ | refine Ja49_ ?_ | refine Ja48_ ?_ _)); refine blk_put (cs := #[.bool (decide (x16_20 > 0)), .int .i64 x13_2, .int .i64 (wrap64 (x13_2 + x16_20)), .int .i64 x14_2, .int .i64 (wrap64 (x14_2 + x16_20)), .int .i64 x15_2, .int .i64 0]) ?_ 6 _ rfl; (with_reducible repeat (first | refine Ja50_ ?_ _ | refine Ja49_ ?_ | refine Ja48_ ?_ _)); refine blk_put (cs := #[.bool (decide (x16_20 > 0)), .int .i64 x13_2, .int .i64 (wrap64 (x13_2 + x16_20)), .int .i64 x14_2, .int .i64 (wrap64 (x14_2 + x16_20)), .int .i64 0, .int .i64 0]) ?_ 5 _ rfl; (with_reducible repeat (first | refine Ja50_ ?_ _ | refine Ja49_ ?_ | refine Ja48_ ?_ _)); refine blk_put (cs := #[.bool (decide (x16_20 > 0)), .int .i64 x13_2, .int .i64 (wrap64 (x13_2 + x16_20)), .int .i64 x14_2, .int .i64 0, .int .i64 0, .int .i64 0]) ?_ 4 _ rfl; (with_reducible repeat (first | refine Ja50_ ?_ _ | refine Ja49_ ?_ | refine Ja48_ ?_ _)); refine blk_put (cs := #[.bool (decide (x16_20 > 0)), .int .i64 x13_2, .int .i64 (wrap64 (x13_2 + x16_20)), .int .i64 0, .int .i64 0, .int .i64 0, .int .i64 0]) ?_ 3 _ rfl; (with_reducible repeat (first | refine Ja50_ ?_ _ | refine Ja49_ ?_ | refine Ja48_ ?_ _)); refine blk_put (cs := #[.bool (decide (x16_20 > 0)), .int .i64 x13_2, .int .i64 0, .int .i64 0, .int .i64 0, .int .i64 0, .int .i64 0]) ?_ 2 _ rfl; (with_reducible repeat (first | refine Ja50_ ?_ _ | refine Ja49_ ?_ | refine Ja48_ ?_ _)); refine blk_put (cs := #[.bool (decide (x16_20 > 0)), .int .i64 0, .int .i64 0, .int .i64 0, .int .i64 0, .int .i64 0, .int .i64 0]) ?_ 1 _ rfl; (with_reducible repeat (first | refine Ja50_ ?_ _ | refine Ja49_ ?_ | refine Ja48_ ?_ _)); refine blk_put (cs := #[.bool false, .int .i64 0, .int .i64 0, .int .i64 0, .int .i64 0, .int .i64 0, .int .i64 0]) ?_ 0 _ rfl; (with_reducible repeat (first | refine Ja50_ ?_ _ | refine Ja49_ ?_ | refine Ja48_ ?_ _)); exact BK105.out) hg (Kd.R_away HO_12.out (fun _ hk => hk.2))); have n1_ := Ja38_.mk (hb); have n2_ := Ja38_.mk (ho); clear BK105; clear HB; clear HO_12; have BK105 := n0_; have HB := n1_; have HO118 := n2_; clear n0_ n1_ n2_; clear ho hb hg hat; have hcz51_0 : w50.cell? ⟨gb105, 0, none⟩ = some (.bool (decide (x16_20 > 0))) := (Ja39_ BK105.out 0).trans rfl; have hcz51_1 : w50.cell? ⟨gb105, 1, none⟩ = some (.int .i64 x13_2) := (Ja39_ BK105.out 1).trans rfl; have hcz51_2 : w50.cell? ⟨gb105, 2, none⟩ = some (.int .i64 (wrap64 (x13_2 + x16_20))) := (Ja39_ BK105.out 2).trans rfl; have hcz51_3 : w50.cell? ⟨gb105, 3, none⟩ = some (.int .i64 x14_2) := (Ja39_ BK105.out 3).trans rfl; have hcz51_4 : w50.cell? ⟨gb105, 4, none⟩ = some (.int .i64 (wrap64 (x14_2 + x16_20))) := (Ja39_ BK105.out 4).trans rfl; have hcz51_5 : w50.cell? ⟨gb105, 5, none⟩ = some (.int .i64 x15_2) := (Ja39_ BK105.out 5).trans rfl; have hcz51_6 : w50.cell? ⟨gb105, 6, none⟩ = some (.int .i64 (wrap64 (x15_2 + x16_20))) := (Ja39_ BK105.out 6).trans rfl; have hfz51_0 := Ja40_ BK105.out 0; have hfz51_1 := Ja40_ BK105.out 1; have hfz51_2 := Ja40_ BK105.out 2; have hfz51_3 := Ja40_ BK105.out 3; have hfz51_4 := Ja40_ BK105.out 4; have hfz51_5 := Ja40_ BK105.out 5; have hfz51_6 := Ja40_ BK105.out 6))
             repeat (go_quiet (first | ((with_reducible refine gate_dst (N := 17) rfl ?_); refine box_event ?hg (N := 17) ?hd (cs := #[.bool false, .int .i64 0, .int .i64 0, .int .i64 0, .int .i64 0, .int .i64 0, .int .i64 0]) (t := 81) ?hr ?_; (case hd => rfl); (case hg => rfl); (case hr => first | (go_simp; done) | (go_simp; rfl)); intro gb105 hg w48 hbox hb; have n0_ := Ja38_.mk (Kd.R_below (Kd.R_elderB (by (with_reducible repeat (first | apply Kd.R_alloc | apply Kd.R_drewN | apply Kd.R_drew)); exact HO_12.out) gb105 (Nat.le_of_eq hg.symm)) hb); have n1_ := Ja38_.mk (Ja44_ (by repeat (first | (with_reducible first | exact HB.out | apply Ja43_ | apply Ja41_ | apply Ja42_) | exact HB.out)) hb); have n2_ := Ja38_.mk (hbox); have n3_ := Ja38_.mk ((by rw [hg]; exact (Ja45_ (by repeat (first | (with_reducible first | exact HB.out | apply Ja43_ | apply Ja41_ | apply Ja42_) | exact HB.out))) : w.heap.size ≤ gb105)); have n4_ := Ja38_.mk ((by rw [hg]; exact (Ja45_ (by repeat (first | (with_reducible first | exact HB.out | apply Ja43_ | apply Ja41_ | apply Ja42_) | exact HB.out))) : w.heap.size ≤ gb105)); clear HO_12; clear HB; have HO_12 := n0_; have HB := n1_; have BK105 := n2_; have GW105 := n3_; have GE105 := n4_; clear n0_ n1_ n2_ n3_ n4_; clear hb hbox hg; have hcz49_0 : w48.cell? ⟨gb105, 0, none⟩ = some (.bool false) := (Ja39_ BK105.out 0).trans rfl; have hcz49_1 : w48.cell? ⟨gb105, 1, none⟩ = some (.int .i64 0) := (Ja39_ BK105.out 1).trans rfl; have hcz49_2 : w48.cell? ⟨gb105, 2, none⟩ = some (.int .i64 0) := (Ja39_ BK105.out 2).trans rfl; have hcz49_3 : w48.cell? ⟨gb105, 3, none⟩ = some (.int .i64 0) := (Ja39_ BK105.out 3).trans rfl; have hcz49_4 : w48.cell? ⟨gb105, 4, none⟩ = some (.int .i64 0) := (Ja39_ BK105.out 4).trans rfl; have hcz49_5 : w48.cell? ⟨gb105, 5, none⟩ = some (.int .i64 0) := (Ja39_ BK105.out 5).trans rfl; have hcz49_6 : w48.cell? ⟨gb105, 6, none⟩ = some (.int .i64 0) := (Ja39_ BK105.out 6).trans rfl; have hfz49_0 := Ja40_ BK105.out 0; have hfz49_1 := Ja40_ BK105.out 1; have hfz49_2 := Ja40_ BK105.out 2; have hfz49_3 := Ja40_ BK105.out 3; have hfz49_4 := Ja40_ BK105.out 4; have hfz49_5 := Ja40_ BK105.out 5; have hfz49_6 := Ja40_ BK105.out 6) | ((with_reducible refine gate_builtin (b := .append) (xs := #[.tmp 150, .tmp 152]) rfl ?_); at_builtin; refine Kd.R_append k81 (w0 := w) w.heap.size rfl (.tmp 150) (.tmp 152) 70 81 (.agg #[(.bool false), (.int .i64 0), (.int .i64 0), (.int .i64 0), (.int .i64 0), (.int .i64 0), (.int .i64 0)]) 56 rfl Try.underlying70 info81 rfl (by decide) (by omega) u12 x12_2 (⟨decide (x16_20 > 0), (⟨x13_2, wrap64 (x13_2 + x16_20)⟩ : S79), (⟨x14_2, wrap64 (x14_2 + x16_20)⟩ : S79), (⟨x15_2, wrap64 (x15_2 + x16_20)⟩ : S79)⟩ : S81) [.bool (decide (x16_20 > 0)), .int .i64 x13_2, .int .i64 (wrap64 (x13_2 + x16_20)), .int .i64 x14_2, .int .i64 (wrap64 (x14_2 + x16_20)), .int .i64 x15_2, .int .i64 (wrap64 (x15_2 + x16_20))] (fun k_ => k_ ≠ gb105) (fun _ => False) rfl (by first | (go_simp; done) | (go_simp; rfl)) ?aP (fun _ hk => hk.elim) ?aF ?aO ?aB ?aS ?aL ?_; (case aP => exact k81_mkM _ _ _ (⟨decide (x16_20 > 0), (⟨x13_2, wrap64 (x13_2 + x16_20)⟩ : S79), (⟨x14_2, wrap64 (x14_2 + x16_20)⟩ : S79), (⟨x15_2, wrap64 (x15_2 + x16_20)⟩ : S79)⟩ : S81)); (case aB => exact (by repeat (first | (with_reducible first | exact HB.out | apply Ja43_ | apply Ja41_ | apply Ja42_ | refine Ja46_ ?_ GE105.out) | exact HB.out))); (case aF => exact (fun k_ hk => Kd.freshB (g := gb105) (o := .cells #[.bool (decide (x16_20 > 0)), .int .i64 x13_2, .int .i64 (wrap64 (x13_2 + x16_20)), .int .i64 x14_2, .int .i64 (wrap64 (x14_2 + x16_20)), .int .i64 x15_2, .int .i64 (wrap64 (x15_2 + x16_20))] 81 (0, 0)) (by (with_reducible repeat (first | refine Ja50_ ?_ _ | refine Ja49_ ?_ | refine Ja48_ ?_ _)); refine blk_put (cs := #[.bool (decide (x16_20 > 0)), .int .i64 x13_2, .int .i64 (wrap64 (x13_2 + x16_20)), .int .i64 x14_2, .int .i64 (wrap64 (x14_2 + x16_20)), .int .i64 x15_2, .int .i64 0]) ?_ 6 _ rfl; (with_reducible repeat (first | refine Ja50_ ?_ _ | refine Ja49_ ?_ | refine Ja48_ ?_ _)); refine blk_put (cs := #[.bool (decide (x16_20 > 0)), .int .i64 x13_2, .int .i64 (wrap64 (x13_2 + x16_20)), .int .i64 x14_2, .int .i64 (wrap64 (x14_2 + x16_20)), .int .i64 0, .int .i64 0]) ?_ 5 _ rfl; (with_reducible repeat (first | refine Ja50_ ?_ _ | refine Ja49_ ?_ | refine Ja48_ ?_ _)); refine blk_put (cs := #[.bool (decide (x16_20 > 0)), .int .i64 x13_2, .int .i64 (wrap64 (x13_2 + x16_20)), .int .i64 x14_2, .int .i64 0, .int .i64 0, .int .i64 0]) ?_ 4 _ rfl; (with_reducible repeat (first | refine Ja50_ ?_ _ | refine Ja49_ ?_ | refine Ja48_ ?_ _)); refine blk_put (cs := #[.bool (decide (x16_20 > 0)), .int .i64 x13_2, .int .i64 (wrap64 (x13_2 + x16_20)), .int .i64 0, .int .i64 0, .int .i64 0, .int .i64 0]) ?_ 3 _ rfl; (with_reducible repeat (first | refine Ja50_ ?_ _ | refine Ja49_ ?_ | refine Ja48_ ?_ _)); refine blk_put (cs := #[.bool (decide (x16_20 > 0)), .int .i64 x13_2, .int .i64 0, .int .i64 0, .int .i64 0, .int .i64 0, .int .i64 0]) ?_ 2 _ rfl; (with_reducible repeat (first | refine Ja50_ ?_ _ | refine Ja49_ ?_ | refine Ja48_ ?_ _)); refine blk_put (cs := #[.bool (decide (x16_20 > 0)), .int .i64 0, .int .i64 0, .int .i64 0, .int .i64 0, .int .i64 0, .int .i64 0]) ?_ 1 _ rfl; (with_reducible repeat (first | refine Ja50_ ?_ _ | refine Ja49_ ?_ | refine Ja48_ ?_ _)); refine blk_put (cs := #[.bool false, .int .i64 0, .int .i64 0, .int .i64 0, .int .i64 0, .int .i64 0, .int .i64 0]) ?_ 0 _ rfl; (with_reducible repeat (first | refine Ja50_ ?_ _ | refine Ja49_ ?_ | refine Ja48_ ?_ _)); exact BK105.out) k_ hk)); (case aO => exact (by (with_reducible repeat (first | apply Kd.R_alloc | apply Kd.R_drewN | apply Kd.R_drew)); exact Kd.R_mono (Kd.R_far (p := ⟨gb105, 6, none⟩) (Kd.R_far (p := ⟨gb105, 5, none⟩) (Kd.R_far (p := ⟨gb105, 4, none⟩) (Kd.R_far (p := ⟨gb105, 3, none⟩) (Kd.R_far (p := ⟨gb105, 2, none⟩) (Kd.R_far (p := ⟨gb105, 1, none⟩) (Kd.R_far (p := ⟨gb105, 0, none⟩) (Kd.R_mono HO_12.out (fun k_ hk => (⟨hk, hk.2⟩ : _ ∧ k_ ≠ gb105))) (fun _ hk => hk.2) (.bool (decide (x16_20 > 0)))) (fun _ hk => hk.2) (.int .i64 x13_2)) (fun _ hk => hk.2) (.int .i64 (wrap64 (x13_2 + x16_20)))) (fun _ hk => hk.2) (.int .i64 x14_2)) (fun _ hk => hk.2) (.int .i64 (wrap64 (x14_2 + x16_20)))) (fun _ hk => hk.2) (.int .i64 x15_2)) (fun _ hk => hk.2) (.int .i64 (wrap64 (x15_2 + x16_20)))) (fun _ hk => hk.1.2))); (case aS => exact (Ja45_ (by repeat (first | (with_reducible first | exact HB.out | apply Ja43_ | apply Ja41_ | apply Ja42_ | refine Ja46_ ?_ GE105.out) | exact HB.out)))); (case aL => have := LMc47.out; omega); intro v117 w50 ho hb hg hat; rw [← Ny116.out] at ho; have n0_ := Ja38_.mk (blk_grown (g := gb105) (o := .cells #[.bool (decide (x16_20 > 0)), .int .i64 x13_2, .int .i64 (wrap64 (x13_2 + x16_20)), .int .i64 x14_2, .int .i64 (wrap64 (x14_2 + x16_20)), .int .i64 x15_2, .int .i64 (wrap64 (x15_2 + x16_20))] 81 (0, 0)) (by (with_reducible repeat (first | refine Ja50_ ?_ _ | refine Ja49_ ?_ | refine Ja48_ ?_ _)); refine blk_put (cs := #[.bool (decide (x16_20 > 0)), .int .i64 x13_2, .int .i64 (wrap64 (x13_2 + x16_20)), .int .i64 x14_2, .int .i64 (wrap64 (x14_2 + x16_20)), .int .i64 x15_2, .int .i64 0]) ?_ 6 _ rfl; (with_reducible repeat (first | refine Ja50_ ?_ _ | refine Ja49_ ?_ | refine Ja48_ ?_ _)); refine blk_put (cs := #[.bool (decide (x16_20 > 0)), .int .i64 x13_2, .int .i64 (wrap64 (x13_2 + x16_20)), .int .i64 x14_2, .int .i64 (wrap64 (x14_2 + x16_20)), .int .i64 0, .int .i64 0]) ?_ 5 _ rfl; (with_reducible repeat (first | refine Ja50_ ?_ _ | refine Ja49_ ?_ | refine Ja48_ ?_ _)); refine blk_put (cs := #[.bool (decide (x16_20 > 0)), .int .i64 x13_2, .int .i64 (wrap64 (x13_2 + x16_20)), .int .i64 x14_2, .int .i64 0, .int .i64 0, .int .i64 0]) ?_ 4 _ rfl; (with_reducible repeat (first | refine Ja50_ ?_ _ | refine Ja49_ ?_ | refine Ja48_ ?_ _)); refine blk_put (cs := #[.bool (decide (x16_20 > 0)), .int .i64 x13_2, .int .i64 (wrap64 (x13_2 + x16_20)), .int .i64 0, .int .i64 0, .int .i64 0, .int .i64 0]) ?_ 3 _ rfl; (with_reducible repeat (first | refine Ja50_ ?_ _ | refine Ja49_ ?_ | refine Ja48_ ?_ _)); refine blk_put (cs := #[.bool (decide (x16_20 > 0)), .int .i64 x13_2, .int .i64 0, .int .i64 0, .int .i64 0, .int .i64 0, .int .i64 0]) ?_ 2 _ rfl; (with_reducible repeat (first | refine Ja50_ ?_ _ | refine Ja49_ ?_ | refine Ja48_ ?_ _)); refine blk_put (cs := #[.bool (decide (x16_20 > 0)), .int .i64 0, .int .i64 0, .int .i64 0, .int .i64 0, .int .i64 0, .int .i64 0]) ?_ 1 _ rfl; (with_reducible repeat (first | refine Ja50_ ?_ _ | refine Ja49_ ?_ | refine Ja48_ ?_ _)); refine blk_put (cs := #[.bool false, .int .i64 0, .int .i64 0, .int .i64 0, .int .i64 0, .int .i64 0, .int .i64 0]) ?_ 0 _ rfl; (with_reducible repeat (first | refine Ja50_ ?_ _ | refine Ja49_ ?_ | refine Ja48_ ?_ _)); exact BK105.out) hg (Kd.R_away HO_12.out (fun _ hk => hk.2))); have n1_ := Ja38_.mk (hb); have n2_ := Ja38_.mk (ho); clear BK105; clear HB; clear HO_12; have BK105 := n0_; have HB := n1_; have HO118 := n2_; clear n0_ n1_ n2_; clear ho hb hg hat; have hcz51_0 : w50.cell? ⟨gb105, 0, none⟩ = some (.bool (decide (x16_20 > 0))) := (Ja39_ BK105.out 0).trans rfl; have hcz51_1 : w50.cell? ⟨gb105, 1, none⟩ = some (.int .i64 x13_2) := (Ja39_ BK105.out 1).trans rfl; have hcz51_2 : w50.cell? ⟨gb105, 2, none⟩ = some (.int .i64 (wrap64 (x13_2 + x16_20))) := (Ja39_ BK105.out 2).trans rfl; have hcz51_3 : w50.cell? ⟨gb105, 3, none⟩ = some (.int .i64 x14_2) := (Ja39_ BK105.out 3).trans rfl; have hcz51_4 : w50.cell? ⟨gb105, 4, none⟩ = some (.int .i64 (wrap64 (x14_2 + x16_20))) := (Ja39_ BK105.out 4).trans rfl; have hcz51_5 : w50.cell? ⟨gb105, 5, none⟩ = some (.int .i64 x15_2) := (Ja39_ BK105.out 5).trans rfl; have hcz51_6 : w50.cell? ⟨gb105, 6, none⟩ = some (.int .i64 (wrap64 (x15_2 + x16_20))) := (Ja39_ BK105.out 6).trans rfl; have hfz51_0 := Ja40_ BK105.out 0; have hfz51_1 := Ja40_ BK105.out 1; have hfz51_2 := Ja40_ BK105.out 2; have hfz51_3 := Ja40_ BK105.out 3; have hfz51_4 := Ja40_ BK105.out 4; have hfz51_5 := Ja40_ BK105.out 5; have hfz51_6 := Ja40_ BK105.out 6)); try go_wp2_with (first | ((with_reducible refine gate_dst (N := 17) rfl ?_); refine box_event ?hg (N := 17) ?hd (cs := #[.bool false, .int .i64 0, .int .i64 0, .int .i64 0, .int .i64 0, .int .i64 0, .int .i64 0]) (t := 81) ?hr ?_; (case hd => rfl); (case hg => rfl); (case hr => first | (go_simp; done) | (go_simp; rfl)); intro gb105 hg w48 hbox hb; have n0_ := Ja38_.mk (Kd.R_below (Kd.R_elderB (by (with_reducible repeat (first | apply Kd.R_alloc | apply Kd.R_drewN | apply Kd.R_drew)); exact HO_12.out) gb105 (Nat.le_of_eq hg.symm)) hb); have n1_ := Ja38_.mk (Ja44_ (by repeat (first | (with_reducible first | exact HB.out | apply Ja43_ | apply Ja41_ | apply Ja42_) | exact HB.out)) hb); have n2_ := Ja38_.mk (hbox); have n3_ := Ja38_.mk ((by rw [hg]; exact (Ja45_ (by repeat (first | (with_reducible first | exact HB.out | apply Ja43_ | apply Ja41_ | apply Ja42_) | exact HB.out))) : w.heap.size ≤ gb105)); have n4_ := Ja38_.mk ((by rw [hg]; exact (Ja45_ (by repeat (first | (with_reducible first | exact HB.out | apply Ja43_ | apply Ja41_ | apply Ja42_) | exact HB.out))) : w.heap.size ≤ gb105)); clear HO_12; clear HB; have HO_12 := n0_; have HB := n1_; have BK105 := n2_; have GW105 := n3_; have GE105 := n4_; clear n0_ n1_ n2_ n3_ n4_; clear hb hbox hg; have hcz49_0 : w48.cell? ⟨gb105, 0, none⟩ = some (.bool false) := (Ja39_ BK105.out 0).trans rfl; have hcz49_1 : w48.cell? ⟨gb105, 1, none⟩ = some (.int .i64 0) := (Ja39_ BK105.out 1).trans rfl; have hcz49_2 : w48.cell? ⟨gb105, 2, none⟩ = some (.int .i64 0) := (Ja39_ BK105.out 2).trans rfl; have hcz49_3 : w48.cell? ⟨gb105, 3, none⟩ = some (.int .i64 0) := (Ja39_ BK105.out 3).trans rfl; have hcz49_4 : w48.cell? ⟨gb105, 4, none⟩ = some (.int .i64 0) := (Ja39_ BK105.out 4).trans rfl; have hcz49_5 : w48.cell? ⟨gb105, 5, none⟩ = some (.int .i64 0) := (Ja39_ BK105.out 5).trans rfl; have hcz49_6 : w48.cell? ⟨gb105, 6, none⟩ = some (.int .i64 0) := (Ja39_ BK105.out 6).trans rfl; have hfz49_0 := Ja40_ BK105.out 0; have hfz49_1 := Ja40_ BK105.out 1; have hfz49_2 := Ja40_ BK105.out 2; have hfz49_3 := Ja40_ BK105.out 3; have hfz49_4 := Ja40_ BK105.out 4; have hfz49_5 := Ja40_ BK105.out 5; have hfz49_6 := Ja40_ BK105.out 6) | ((with_reducible refine gate_builtin (b := .append) (xs := #[.tmp 150, .tmp 152]) rfl ?_); at_builtin; refine Kd.R_append k81 (w0 := w) w.heap.size rfl (.tmp 150) (.tmp 152) 70 81 (.agg #[(.bool false), (.int .i64 0), (.int .i64 0), (.int .i64 0), (.int .i64 0), (.int .i64 0), (.int .i64 0)]) 56 rfl Try.underlying70 info81 rfl (by decide) (by omega) u12 x12_2 (⟨decide (x16_20 > 0), (⟨x13_2, wrap64 (x13_2 + x16_20)⟩ : S79), (⟨x14_2, wrap64 (x14_2 + x16_20)⟩ : S79), (⟨x15_2, wrap64 (x15_2 + x16_20)⟩ : S79)⟩ : S81) [.bool (decide (x16_20 > 0)), .int .i64 x13_2, .int .i64 (wrap64 (x13_2 + x16_20)), .int .i64 x14_2, .int .i64 (wrap64 (x14_2 + x16_20)), .int .i64 x15_2, .int .i64 (wrap64 (x15_2 + x16_20))] (fun k_ => k_ ≠ gb105) (fun _ => False) rfl (by first | (go_simp; done) | (go_simp; rfl)) ?aP (fun _ hk => hk.elim) ?aF ?aO ?aB ?aS ?aL ?_; (case aP => exact k81_mkM _ _ _ (⟨decide (x16_20 > 0), (⟨x13_2, wrap64 (x13_2 + x16_20)⟩ : S79), (⟨x14_2, wrap64 (x14_2 + x16_20)⟩ : S79), (⟨x15_2, wrap64 (x15_2 + x16_20)⟩ : S79)⟩ : S81)); (case aB => exact (by repeat (first | (with_reducible first | exact HB.out | apply Ja43_ | apply Ja41_ | apply Ja42_ | refine Ja46_ ?_ GE105.out) | exact HB.out))); (case aF => exact (fun k_ hk => Kd.freshB (g := gb105) (o := .cells #[.bool (decide (x16_20 > 0)), .int .i64 x13_2, .int .i64 (wrap64 (x13_2 + x16_20)), .int .i64 x14_2, .int .i64 (wrap64 (x14_2 + x16_20)), .int .i64 x15_2, .int .i64 (wrap64 (x15_2 + x16_20))] 81 (0, 0)) (by (with_reducible repeat (first | refine Ja50_ ?_ _ | refine Ja49_ ?_ | refine Ja48_ ?_ _)); refine blk_put (cs := #[.bool (decide (x16_20 > 0)), .int .i64 x13_2, .int .i64 (wrap64 (x13_2 + x16_20)), .int .i64 x14_2, .int .i64 (wrap64 (x14_2 + x16_20)), .int .i64 x15_2, .int .i64 0]) ?_ 6 _ rfl; (with_reducible repeat (first | refine Ja50_ ?_ _ | refine Ja49_ ?_ | refine Ja48_ ?_ _)); refine blk_put (cs := #[.bool (decide (x16_20 > 0)), .int .i64 x13_2, .int .i64 (wrap64 (x13_2 + x16_20)), .int .i64 x14_2, .int .i64 (wrap64 (x14_2 + x16_20)), .int .i64 0, .int .i64 0]) ?_ 5 _ rfl; (with_reducible repeat (first | refine Ja50_ ?_ _ | refine Ja49_ ?_ | refine Ja48_ ?_ _)); refine blk_put (cs := #[.bool (decide (x16_20 > 0)), .int .i64 x13_2, .int .i64 (wrap64 (x13_2 + x16_20)), .int .i64 x14_2, .int .i64 0, .int .i64 0, .int .i64 0]) ?_ 4 _ rfl; (with_reducible repeat (first | refine Ja50_ ?_ _ | refine Ja49_ ?_ | refine Ja48_ ?_ _)); refine blk_put (cs := #[.bool (decide (x16_20 > 0)), .int .i64 x13_2, .int .i64 (wrap64 (x13_2 + x16_20)), .int .i64 0, .int .i64 0, .int .i64 0, .int .i64 0]) ?_ 3 _ rfl; (with_reducible repeat (first | refine Ja50_ ?_ _ | refine Ja49_ ?_ | refine Ja48_ ?_ _)); refine blk_put (cs := #[.bool (decide (x16_20 > 0)), .int .i64 x13_2, .int .i64 0, .int .i64 0, .int .i64 0, .int .i64 0, .int .i64 0]) ?_ 2 _ rfl; (with_reducible repeat (first | refine Ja50_ ?_ _ | refine Ja49_ ?_ | refine Ja48_ ?_ _)); refine blk_put (cs := #[.bool (decide (x16_20 > 0)), .int .i64 0, .int .i64 0, .int .i64 0, .int .i64 0, .int .i64 0, .int .i64 0]) ?_ 1 _ rfl; (with_reducible repeat (first | refine Ja50_ ?_ _ | refine Ja49_ ?_ | refine Ja48_ ?_ _)); refine blk_put (cs := #[.bool false, .int .i64 0, .int .i64 0, .int .i64 0, .int .i64 0, .int .i64 0, .int .i64 0]) ?_ 0 _ rfl; (with_reducible repeat (first | refine Ja50_ ?_ _ | refine Ja49_ ?_ | refine Ja48_ ?_ _)); exact BK105.out) k_ hk)); (case aO => exact (by (with_reducible repeat (first | apply Kd.R_alloc | apply Kd.R_drewN | apply Kd.R_drew)); exact Kd.R_mono (Kd.R_far (p := ⟨gb105, 6, none⟩) (Kd.R_far (p := ⟨gb105, 5, none⟩) (Kd.R_far (p := ⟨gb105, 4, none⟩) (Kd.R_far (p := ⟨gb105, 3, none⟩) (Kd.R_far (p := ⟨gb105, 2, none⟩) (Kd.R_far (p := ⟨gb105, 1, none⟩) (Kd.R_far (p := ⟨gb105, 0, none⟩) (Kd.R_mono HO_12.out (fun k_ hk => (⟨hk, hk.2⟩ : _ ∧ k_ ≠ gb105))) (fun _ hk => hk.2) (.bool (decide (x16_20 > 0)))) (fun _ hk => hk.2) (.int .i64 x13_2)) (fun _ hk => hk.2) (.int .i64 (wrap64 (x13_2 + x16_20)))) (fun _ hk => hk.2) (.int .i64 x14_2)) (fun _ hk => hk.2) (.int .i64 (wrap64 (x14_2 + x16_20)))) (fun _ hk => hk.2) (.int .i64 x15_2)) (fun _ hk => hk.2) (.int .i64 (wrap64 (x15_2 + x16_20)))) (fun _ hk => hk.1.2))); (case aS => exact (Ja45_ (by repeat (first | (with_reducible first | exact HB.out | apply Ja43_ | apply Ja41_ | apply Ja42_ | refine Ja46_ ?_ GE105.out) | exact HB.out)))); (case aL => have := LMc47.out; omega); intro v117 w50 ho hb hg hat; rw [← Ny116.out] at ho; have n0_ := Ja38_.mk (blk_grown (g := gb105) (o := .cells #[.bool (decide (x16_20 > 0)), .int .i64 x13_2, .int .i64 (wrap64 (x13_2 + x16_20)), .int .i64 x14_2, .int .i64 (wrap64 (x14_2 + x16_20)), .int .i64 x15_2, .int .i64 (wrap64 (x15_2 + x16_20))] 81 (0, 0)) (by (with_reducible repeat (first | refine Ja50_ ?_ _ | refine Ja49_ ?_ | refine Ja48_ ?_ _)); refine blk_put (cs := #[.bool (decide (x16_20 > 0)), .int .i64 x13_2, .int .i64 (wrap64 (x13_2 + x16_20)), .int .i64 x14_2, .int .i64 (wrap64 (x14_2 + x16_20)), .int .i64 x15_2, .int .i64 0]) ?_ 6 _ rfl; (with_reducible repeat (first | refine Ja50_ ?_ _ | refine Ja49_ ?_ | refine Ja48_ ?_ _)); refine blk_put (cs := #[.bool (decide (x16_20 > 0)), .int .i64 x13_2, .int .i64 (wrap64 (x13_2 + x16_20)), .int .i64 x14_2, .int .i64 (wrap64 (x14_2 + x16_20)), .int .i64 0, .int .i64 0]) ?_ 5 _ rfl; (with_reducible repeat (first | refine Ja50_ ?_ _ | refine Ja49_ ?_ | refine Ja48_ ?_ _)); refine blk_put (cs := #[.bool (decide (x16_20 > 0)), .int .i64 x13_2, .int .i64 (wrap64 (x13_2 + x16_20)), .int .i64 x14_2, .int .i64 0, .int .i64 0, .int .i64 0]) ?_ 4 _ rfl; (with_reducible repeat (first | refine Ja50_ ?_ _ | refine Ja49_ ?_ | refine Ja48_ ?_ _)); refine blk_put (cs := #[.bool (decide (x16_20 > 0)), .int .i64 x13_2, .int .i64 (wrap64 (x13_2 + x16_20)), .int .i64 0, .int .i64 0, .int .i64 0, .int .i64 0]) ?_ 3 _ rfl; (with_reducible repeat (first | refine Ja50_ ?_ _ | refine Ja49_ ?_ | refine Ja48_ ?_ _)); refine blk_put (cs := #[.bool (decide (x16_20 > 0)), .int .i64 x13_2, .int .i64 0, .int .i64 0, .int .i64 0, .int .i64 0, .int .i64 0]) ?_ 2 _ rfl; (with_reducible repeat (first | refine Ja50_ ?_ _ | refine Ja49_ ?_ | refine Ja48_ ?_ _)); refine blk_put (cs := #[.bool (decide (x16_20 > 0)), .int .i64 0, .int .i64 0, .int .i64 0, .int .i64 0, .int .i64 0, .int .i64 0]) ?_ 1 _ rfl; (with_reducible repeat (first | refine Ja50_ ?_ _ | refine Ja49_ ?_ | refine Ja48_ ?_ _)); refine blk_put (cs := #[.bool false, .int .i64 0, .int .i64 0, .int .i64 0, .int .i64 0, .int .i64 0, .int .i64 0]) ?_ 0 _ rfl; (with_reducible repeat (first | refine Ja50_ ?_ _ | refine Ja49_ ?_ | refine Ja48_ ?_ _)); exact BK105.out) hg (Kd.R_away HO_12.out (fun _ hk => hk.2))); have n1_ := Ja38_.mk (hb); have n2_ := Ja38_.mk (ho); clear BK105; clear HB; clear HO_12; have BK105 := n0_; have HB := n1_; have HO118 := n2_; clear n0_ n1_ n2_; clear ho hb hg hat; have hcz51_0 : w50.cell? ⟨gb105, 0, none⟩ = some (.bool (decide (x16_20 > 0))) := (Ja39_ BK105.out 0).trans rfl; have hcz51_1 : w50.cell? ⟨gb105, 1, none⟩ = some (.int .i64 x13_2) := (Ja39_ BK105.out 1).trans rfl; have hcz51_2 : w50.cell? ⟨gb105, 2, none⟩ = some (.int .i64 (wrap64 (x13_2 + x16_20))) := (Ja39_ BK105.out 2).trans rfl; have hcz51_3 : w50.cell? ⟨gb105, 3, none⟩ = some (.int .i64 x14_2) := (Ja39_ BK105.out 3).trans rfl; have hcz51_4 : w50.cell? ⟨gb105, 4, none⟩ = some (.int .i64 (wrap64 (x14_2 + x16_20))) := (Ja39_ BK105.out 4).trans rfl; have hcz51_5 : w50.cell? ⟨gb105, 5, none⟩ = some (.int .i64 x15_2) := (Ja39_ BK105.out 5).trans rfl; have hcz51_6 : w50.cell? ⟨gb105, 6, none⟩ = some (.int .i64 (wrap64 (x15_2 + x16_20))) := (Ja39_ BK105.out 6).trans rfl; have hfz51_0 := Ja40_ BK105.out 0; have hfz51_1 := Ja40_ BK105.out 1; have hfz51_2 := Ja40_ BK105.out 2; have hfz51_3 := Ja40_ BK105.out 3; have hfz51_4 := Ja40_ BK105.out 4; have hfz51_5 := Ja40_ BK105.out 5; have hfz51_6 := Ja40_ BK105.out 6)))
             go_roundg kj20
             case measure => have := HJ5.out; have := HK2.out; have := HJ16.out; have := HJ20.out; omega
             case rel => exact ⟨(y116), (wrap64 (x13_2 + x16_20)), (wrap64 (x14_2 + x16_20)), (wrap64 (x15_2 + x16_20)), (by first | rfl | (simp; done) | (simp [*]; done)), (by first | rfl | (simp; done) | (simp [*]; done)), (by first | rfl | (simp; done) | (simp [*]; done)), H', ⟨by have := HJ5.out; have := HK2.out; have := HJ16.out; have := HJ20.out; omega⟩, ⟨by (with_reducible repeat (first | apply Kd.R_alloc | apply Kd.R_drewN | apply Kd.R_drew)); exact Kd.R_mono HO118.out (fun _ hk => trivial)⟩, ⟨by repeat (first | (with_reducible first | exact HB.out | apply Ja43_ | apply Ja41_ | apply Ja42_ | refine Ja46_ ?_ GE105.out) | exact HB.out)⟩⟩
            ·rw [if_neg c47] at H
             exact absurd H (by simp)
        ·replace c20 := Bool.eq_false_iff.mpr c20
         subst c20
         have H1 : (some (x12_2, true)) = some (r1, r2) := by rw [if_neg (show ¬ (false = true) by decide)] at H; exact H
         clear H
         have H := H1
         clear H1
         simp only [Option.some.injEq, Prod.mk.injEq] at H
         obtain ⟨rfl, rfl⟩ := H
         go_wp2
         repeat (go_quiet (fail); try go_wp2)
         go_ret2
         exact ⟨_, by first | rfl | (simp [errW_none, errW_some] <;> rfl) | (simp [*, errW_none, errW_some] <;> rfl), by (with_reducible repeat (first | apply Kd.R_alloc | apply Kd.R_drewN | apply Kd.R_drew)); exact HO_12.out, by repeat (first | (with_reducible first | exact HB.out | apply Ja43_ | apply Ja41_ | apply Ja42_) | exact HB.out)⟩
end Go.Proofs.Ytadafplbgophfaa.PA
end
section
namespace Go.Proofs.Ytadafplbgophfaa.PA
set_option linter.unusedSimpArgs false
set_option linter.unusedVariables false
open Go.RowKit Go.Proofs.YtadafplbgophfaaW.PrintWords Go.Proofs.YtadafplbgophfaaW.PrintLast Go.Proofs.YtadafplbgophfaaW.PrintMore
def J23_.f (k : Nat) (base left right : ByteArray) : Option (List ByteArray × List ByteArray × List ByteArray × List S81) :=
 (J30_.f k base).bind fun s1 => (J30_.f k left).bind fun s2 => (J30_.f k right).bind fun s3 =>
 (J28_.f k [s1, s2, s3]).bind fun nn => if nn.length = 3 then
  (J32_.f k (rd_L6 nn 0) (rd_L6 nn 1)).bind fun p1 => (J32_.f k (rd_L6 nn 0) (rd_L6 nn 2)).bind fun p2 =>
  (J35_.f k (s1.length : Int) (s2.length : Int) (s3.length : Int) p1 p2).bind fun r => some (s1, s2, s3, r.1)
 else none
theorem size_set71 (w : World) (p : Addr) (u : Value) : (w.setCell p u).heap.size = w.heap.size := by simp [World.setCell]
theorem hold6_71 {W w' : World} {a0 a1 a2 a3 a4 a5 : Addr} {v0 v1 v2 v3 v4 v5 : Value} (hb : Below W.heap.size W w') (h : W.cell? a0 = some v0 ∧ W.cell? a1 = some v1 ∧ W.cell? a2 = some v2 ∧ W.cell? a3 = some v3 ∧ W.cell? a4 = some v4 ∧ W.cell? a5 = some v5) : w'.cell? a0 = some v0 ∧ w'.cell? a1 = some v1 ∧ w'.cell? a2 = some v2 ∧ w'.cell? a3 = some v3 ∧ w'.cell? a4 = some v4 ∧ w'.cell? a5 = some v5 := ⟨Ja51_ hb h.1, Ja51_ hb h.2.1, Ja51_ hb h.2.2.1, Ja51_ hb h.2.2.2.1, Ja51_ hb h.2.2.2.2.1, Ja51_ hb h.2.2.2.2.2⟩
theorem F_on71 {α : Type} {d : Kd α} {w w1 : World} {ok : Nat → Prop} {A : Option Addr} {n : Nat} {xs : List α} (h : Kd.F d w ok A n xs) (hb : Below w.heap.size w w1) : Kd.F d w1 ok A n xs := Kd.F_mono (Kd.F_old h hb) (fun _ hk => hk.1)
theorem F_set3 {α : Type} {d : Kd α} {w : World} {s : Nat} {A : Option Addr} {n : Nat} {xs : List α} (h : Kd.F d w (fun k => k ≠ s) A n xs) (v0 v1 v2 : Value) : Kd.C d (((w.setCell ⟨s, 0, none⟩ v0).setCell ⟨s, 1, none⟩ v1).setCell ⟨s, 2, none⟩ v2) A n xs :=
 h _ (fun k hk _ => ((Below.heap_setCell _ ⟨s, 2, none⟩ v2 k hk).trans (Below.heap_setCell _ ⟨s, 1, none⟩ v1 k hk)).trans (Below.heap_setCell _ ⟨s, 0, none⟩ v0 k hk))
theorem away71b {α : Type} {d : Kd α} {e base g n0 : Nat} {w : World} {ok : Nat → Prop} {A : Option Addr} {c : Nat} {xs : List α} (hE : d.E = []) (h : Kd.R d e w base ok (.slice A xs.length c) xs) (hn : n0 ≤ base) (hg : g < base) : Kd.F d w (fun k => n0 ≤ k ∧ k ≠ g) A xs.length xs :=
 Kd.F_mono (Kd.R_F (Kd.R_tight hE h)) (fun k hk => ⟨by have := Kd.R_base h k hk.symm; omega, fun e => by have := Kd.R_base h k hk.symm; omega⟩)
theorem F_set3b {α : Type} {d : Kd α} {w : World} {s : Nat} {ok : Nat → Prop} {A : Option Addr} {n : Nat} {xs : List α} (h : Kd.F d w (fun k => ok k ∧ k ≠ s) A n xs) (v0 v1 v2 : Value) : Kd.F d (((w.setCell ⟨s, 0, none⟩ v0).setCell ⟨s, 1, none⟩ v1).setCell ⟨s, 2, none⟩ v2) ok A n xs := by
 intro W hW
 refine h W (fun k hk hl => ?_)
 have hs : k < (((w.setCell ⟨s, 0, none⟩ v0).setCell ⟨s, 1, none⟩ v1).setCell ⟨s, 2, none⟩ v2).heap.size := by simp only [size_set71]; exact hl
 exact (hW k hk.1 hs).trans (((Below.heap_setCell _ ⟨s, 2, none⟩ v2 k hk.2).trans (Below.heap_setCell _ ⟨s, 1, none⟩ v1 k hk.2)).trans (Below.heap_setCell _ ⟨s, 0, none⟩ v0 k hk.2))
theorem fill3_107 {w : World} {s : Nat} {z0 z1 z2 : Value} (h : w.heap[s]? = some (.cells #[z0, z1, z2] 107 (0, 0))) (v0 v1 v2 : Value) :
  (((w.setCell ⟨s, 0, none⟩ v0).setCell ⟨s, 1, none⟩ v1).setCell ⟨s, 2, none⟩ v2).heap[s]? = some (.cells #[v0, v1, v2] 107 (0, 0)) := by
 have h0 : (w.setCell ⟨s, 0, none⟩ v0).heap[s]? = some (.cells #[v0, z1, z2] 107 (0, 0)) := blk_put h 0 v0 rfl
 have h1 : ((w.setCell ⟨s, 0, none⟩ v0).setCell ⟨s, 1, none⟩ v1).heap[s]? = some (.cells #[v0, v1, z2] 107 (0, 0)) := blk_put h0 1 v1 rfl
 exact blk_put h1 2 v2 rfl
theorem far3 {w : World} {g s : Nat} {t : TypeId} {cs : Array Value} (h : w.heap[g]? = some (.cells cs t (0, 0))) (hn : g ≠ s) (v0 v1 v2 : Value) :
  (((w.setCell ⟨s, 0, none⟩ v0).setCell ⟨s, 1, none⟩ v1).setCell ⟨s, 2, none⟩ v2).heap[g]? = some (.cells cs t (0, 0)) :=
 blk_far (p := ⟨s, 2, none⟩) (blk_far (p := ⟨s, 1, none⟩) (blk_far (p := ⟨s, 0, none⟩) h hn v0) hn v1) hn v2
theorem below3 {w0 w : World} {s : Nat} (h : Below w0.heap.size w0 w) (hs : w0.heap.size ≤ s) (v0 v1 v2 : Value) :
  Below w0.heap.size w0 (((w.setCell ⟨s, 0, none⟩ v0).setCell ⟨s, 1, none⟩ v1).setCell ⟨s, 2, none⟩ v2) := Ja46_ (Ja46_ (Ja46_ h hs) hs) hs
def J23_.T3 : Bool × List (List Nat × List Nat) := (true, [([], []), ([0], [0]), ([1], [1]), ([], []), ([3], [3]), ([4], [4]), ([], []), ([6], [6]), ([7], [7]), ([], []), ([9], [9]), ([10], [10]), ([], []), ([12], [12]), ([13], [13]), ([11, 14], [11, 14]), ([], []), ([16], [16]), ([17], [17]), ([], []), ([19], [19]), ([20], [20]), ([18, 21, 15], [18, 21]), ([2, 5, 8, 15, 22, 22], [2, 5, 8, 15, 22]), ([23], [23]), ([24], [24]), ([24], [24]), ([25, 23, 0, 1, 2, 3, 4, 5, 6, 7, 8, 9, 10, 11, 12, 13, 14, 15, 16, 17, 18, 19, 20, 21, 22, 23, 24, 25], [25]), ([26, 27, 0, 1, 2, 3, 4, 5, 6, 7, 8, 9, 10, 11, 12, 13, 14, 15, 16, 17, 18, 19, 20, 21, 22, 23, 24, 25, 26, 27], [26])])
def J23_.B3 : List Nat := [0, 1, 3, 0, 8, 24, 0, 64, 192, 0, 512, 1536, 0, 4096, 12288, 32256, 0, 65536, 196608, 0, 524288, 1572864, 4193792, 8388607, 16777215, 33554431, 33554431, 67108863, 268435455]
theorem J23_.tab3 : rtab .any (opsOf Try.f71 3) = J23_.T3 := by kernel_rfl
theorem J23_.bits3 : waitsOk J23_.T3.2 J23_.B3 = true := by kernel_rfl
set_option maxHeartbeats 8000000 in
set_option maxRecDepth 100000 in
theorem J23_.callsF (k : Nat) (a0 a1 a2 : ByteArray) (s1 s2 s3 : List ByteArray) (l : List S81) (w : World) (h : J23_.f k a0 a1 a2 = some (s1, s2, s3, l)) :
  Calls Try.prog 71 #[.string a0, .string a1, .string a2] w fun e w' => ∃ (A0 A1 A2 A3 : Option Addr) (c0 c1 c2 c3 : Nat), e = .returned (.tuple #[.agg #[.slice A0 s1.length c0, .slice A1 s2.length c1, .slice A2 s3.length c2], .slice A3 l.length c3]) ∧ (Kd.F Kd.string w' (fun k => w.heap.size ≤ k) A0 s1.length s1 ∧ s1.length ≤ c0) ∧ (Kd.F Kd.string w' (fun k => w.heap.size ≤ k) A1 s2.length s2 ∧ s2.length ≤ c1) ∧ (Kd.F Kd.string w' (fun k => w.heap.size ≤ k) A2 s3.length s3 ∧ s3.length ≤ c2) ∧ (Kd.F k81 w' (fun k => w.heap.size ≤ k) A3 l.length l ∧ l.length ≤ c3) ∧ Below w.heap.size w w' := by
 unfold J23_.f at h
 replace h := Option.bind_eq_some_iff.1 h
 obtain ⟨t1, h1, h⟩ := h
 replace h := Option.bind_eq_some_iff.1 h
 obtain ⟨t2, h2, h⟩ := h
 replace h := Option.bind_eq_some_iff.1 h
 obtain ⟨t3, h3, h⟩ := h
 replace h := Option.bind_eq_some_iff.1 h
 obtain ⟨nn, hnn, h⟩ := h
 split at h
 case isFalse => cases h
 rename_i hn3
 replace h := Option.bind_eq_some_iff.1 h
 obtain ⟨p1, hp1, h⟩ := h
 replace h := Option.bind_eq_some_iff.1 h
 obtain ⟨p2, hp2, h⟩ := h
 replace h := Option.bind_eq_some_iff.1 h
 obtain ⟨⟨cs, okr⟩, hof, h⟩ := h
 simp only [Option.some.injEq, Prod.mk.injEq] at h
 obtain ⟨rfl, rfl, rfl, rfl⟩ := h
 have F1 := Ja38_.mk h1
 have F2 := Ja38_.mk h2
 have F3 := Ja38_.mk h3
 have FN := Ja38_.mk hnn
 have FP1 := Ja38_.mk hp1
 have FP2 := Ja38_.mk hp2
 have FO := Ja38_.mk hof
 have FL := Ja38_.mk hn3
 clear h1 h2 h3 hnn hp1 hp2 hof hn3
 have hu107 := Try.underlying107
 have HB0 := Ja38_.mk (Below.refl w.heap.size w)
 go_enter Try.func71, Try.ntmps71
 go_wp2_with (first | ((with_reducible refine gate_dst (N := 6) rfl ?_); refine box_event ?hg (N := 6) ?hd (cs := #[.slice none 0 0, .slice none 0 0, .slice none 0 0]) (t := 107) ?hr ?_; (case hd => rfl); (case hg => rfl); (case hr => first | (go_simp; done) | (go_simp; rfl)); intro f6 hg w1 hbox hb; have B6 := Ja38_.mk hbox; have HB := Ja38_.mk hb; have GE6 := Ja38_.mk (Nat.le_of_eq hg.symm : w.heap.size ≤ f6); clear hg hbox hb HB0))
 refine (J30_.calls k a0 t1 _ F1.out).mono ?_
 rintro e w2 ⟨v0_, rfl, hR, hb⟩
 obtain ⟨A1, c1, rfl, hc, _⟩ := Kd.R_reads hR
 have hC := away71b rfl hR (Ja45_ HB.out) (blk_lt B6.out)
 have C1 := Ja38_.mk hC
 have L1 := Ja38_.mk hc
 replace B6 := Ja38_.mk (Ja47_ B6.out hb)
 replace HB := Ja38_.mk (Ja44_ HB.out hb)
 clear hR hC hc hb
 go_wp2_with fail
 refine (J30_.calls k a1 t2 _ F2.out).mono ?_
 rintro e w3 ⟨v0_, rfl, hR, hb⟩
 obtain ⟨A2, c2, rfl, hc, _⟩ := Kd.R_reads hR
 have hC := away71b rfl hR (Ja45_ HB.out) (blk_lt B6.out)
 replace C1 := Ja38_.mk (F_on71 C1.out hb)
 have C2 := Ja38_.mk hC
 have L2 := Ja38_.mk hc
 replace B6 := Ja38_.mk (Ja47_ B6.out hb)
 replace HB := Ja38_.mk (Ja44_ HB.out hb)
 clear hR hC hc hb
 go_wp2_with fail
 refine (J30_.calls k a2 t3 _ F3.out).mono ?_
 rintro e w4 ⟨v0_, rfl, hR, hb⟩
 obtain ⟨A3, c3, rfl, hc, _⟩ := Kd.R_reads hR
 have hC := away71b rfl hR (Ja45_ HB.out) (blk_lt B6.out)
 replace C1 := Ja38_.mk (F_on71 C1.out hb)
 replace C2 := Ja38_.mk (F_on71 C2.out hb)
 have C3 := Ja38_.mk hC
 have L3 := Ja38_.mk hc
 replace B6 := Ja38_.mk (Ja47_ B6.out hb)
 replace HB := Ja38_.mk (Ja44_ HB.out hb)
 clear hR hC hc hb
 go_wp2_with (first | ((with_reducible refine gate_dst (N := 8) rfl ?_); refine box_event ?hg (N := 8) ?hd (cs := #[.slice none 0 0, .slice none 0 0, .slice none 0 0]) (t := 107) ?hr ?_; (case hd => rfl); (case hg => rfl); (case hr => first | (go_simp; done) | (go_simp; rfl)); intro f8 hg w5 hbox hb; have B8 := Ja38_.mk hbox; have GE8 := Ja38_.mk ((by rw [hg]; exact Ja45_ HB.out) : w.heap.size ≤ f8); have NE68 := Ja38_.mk ((by rw [hg]; exact Nat.ne_of_lt (blk_lt B6.out)) : f6 ≠ f8); replace B6 := Ja38_.mk (Ja47_ B6.out hb); replace HB := Ja38_.mk (Ja44_ HB.out hb); have HB45 := Ja38_.mk hb; have GE45 := Ja38_.mk (Nat.le_of_eq hg.symm : w4.heap.size ≤ f8); have y0 := (Ja39_ hbox 0).trans (show _ = some (Value.slice none 0 0) from rfl); have y1 := (Ja39_ hbox 1).trans (show _ = some (Value.slice none 0 0) from rfl); have y2 := (Ja39_ hbox 2).trans (show _ = some (Value.slice none 0 0) from rfl); have x0 := Ja40_ hbox 0; have x1 := Ja40_ hbox 1; have x2 := Ja40_ hbox 2; clear hg hbox hb))
 have B8' := Ja38_.mk (fill3_107 B8.out (.slice A1 t1.length c1) (.slice A2 t2.length c2) (.slice A3 t3.length c3))
 have B6' := Ja38_.mk (far3 B6.out NE68.out (.slice A1 t1.length c1) (.slice A2 t2.length c2) (.slice A3 t3.length c3))
 have HB' := Ja38_.mk (below3 HB.out GE8.out (.slice A1 t1.length c1) (.slice A2 t2.length c2) (.slice A3 t3.length c3))
 replace C1 := Ja38_.mk (F_on71 C1.out (below3 HB45.out GE45.out (.slice A1 t1.length c1) (.slice A2 t2.length c2) (.slice A3 t3.length c3)))
 replace C2 := Ja38_.mk (F_on71 C2.out (below3 HB45.out GE45.out (.slice A1 t1.length c1) (.slice A2 t2.length c2) (.slice A3 t3.length c3)))
 replace C3 := Ja38_.mk (F_on71 C3.out (below3 HB45.out GE45.out (.slice A1 t1.length c1) (.slice A2 t2.length c2) (.slice A3 t3.length c3)))
 clear y0 y1 y2 x0 x1 x2 B8 B6 HB HB45 GE45
 have hs6 : (((w5.setCell ⟨f8, 0, none⟩ (.slice A1 t1.length c1)).setCell ⟨f8, 1, none⟩ (.slice A2 t2.length c2)).setCell ⟨f8, 2, none⟩ (.slice A3 t3.length c3)).heap.size = w5.heap.size := by simp only [size_set71]
 rw [← hs6]
 clear hs6
 generalize (((w5.setCell ⟨f8, 0, none⟩ (.slice A1 t1.length c1)).setCell ⟨f8, 1, none⟩ (.slice A2 t2.length c2)).setCell ⟨f8, 2, none⟩ (.slice A3 t3.length c3)) = w6 at B8' B6' HB' C1 C2 C3 ⊢
 have HLL : Ja38_ (Kd.C (Kd.slice 9 Kd.string) (w6.alloc (.cells #[.slice A1 t1.length c1, .slice A2 t2.length c2, .slice A3 t3.length c3] 27 (0, 0))) (some ⟨w6.heap.size, 0, none⟩) [t1, t2, t3].length [t1, t2, t3]) := ⟨C_lit (Kd.slice 9 Kd.string) rfl w6 27 [t1, t2, t3] [.slice A1 t1.length c1, .slice A2 t2.length c2, .slice A3 t3.length c3] rfl (by simp) (fun j p u hp hu => by
  match j, hp, hu with
  | 0, hp, hu => cases hp; cases hu; exact ⟨A1, c1, rfl, L1.out, Kd.F_now C1.out⟩
  | 1, hp, hu => cases hp; cases hu; exact ⟨A2, c2, rfl, L2.out, Kd.F_now C2.out⟩
  | 2, hp, hu => cases hp; cases hu; exact ⟨A3, c3, rfl, L3.out, Kd.F_now C3.out⟩
  | (j + 3), hp, hu => simp at hp)⟩
 refine (J28_.calls k (some ⟨w6.heap.size, 0, none⟩) 3 [t1, t2, t3] nn _ HLL.out (Nat.le_refl _) FN.out).mono ?_
 rintro e w7 ⟨v0_, rfl, hR, hb0⟩
 have hb := below_then (Ja43_ (Below.refl w6.heap.size w6) (.cells #[.slice A1 t1.length c1, .slice A2 t2.length c2, .slice A3 t3.length c3] 27 (0, 0))) (Ja43_ (Below.refl w6.heap.size w6) _).size hb0
 replace C1 := Ja38_.mk (F_on71 C1.out hb)
 replace C2 := Ja38_.mk (F_on71 C2.out hb)
 replace C3 := Ja38_.mk (F_on71 C3.out hb)
 have B8 := Ja38_.mk (Ja47_ B8'.out hb)
 have B6 := Ja38_.mk (Ja47_ B6'.out hb)
 have HB := Ja38_.mk (Ja44_ HB'.out hb)
 clear B8' B6' HB' HLL hb hb0
 obtain ⟨A, c, rfl, hc, hC⟩ := Kd.R_reads (Kd.S_R hR)
 clear hR
 obtain ⟨ad0, AX, cX, e0, hx, hlx, hcx⟩ := at_L6 hC (0 : Int) (by decide) (by have := FL.out; omega)
 cases e0
 obtain ⟨ad1, AY, cY, e1, hy, hly, hcy⟩ := at_L6 hC (1 : Int) (by decide) (by have := FL.out; omega)
 cases e1
 obtain ⟨ad2, AZ, cZ, e2, hz, hlz, hcz⟩ := at_L6 hC (2 : Int) (by decide) (by have := FL.out; omega)
 cases e2
 simp only [Int.toNat_zero, Int.toNat_one, show Int.toNat 2 = 2 from rfl] at hx hy hz
 have hp1 := FP1.out
 have hp2 := FP2.out
 generalize rd_L6 nn 0 = x at hx hlx hcx hp1 hp2
 have KX := Ja38_.mk hcx
 have MX := Ja38_.mk hlx
 generalize rd_L6 nn 1 = y at hy hly hcy hp1 hp2
 have KY := Ja38_.mk hcy
 have MY := Ja38_.mk hly
 generalize rd_L6 nn 2 = z at hz hlz hcz hp1 hp2
 have KZ := Ja38_.mk hcz
 have MZ := Ja38_.mk hlz
 replace hx : w7.cell? ad0 = some (.slice AX x.length cX) := by simpa [Addr.add] using hx
 replace hy : w7.cell? ⟨ad0.block, ad0.off + 1, none⟩ = some (.slice AY y.length cY) := by simpa [Addr.add] using hy
 replace hz : w7.cell? ⟨ad0.block, ad0.off + 2, none⟩ = some (.slice AZ z.length cZ) := by simpa [Addr.add] using hz
 have G1 := Ja38_.mk hp1
 have G2 := Ja38_.mk hp2
 clear hp1 hp2 hcx hcy hcz hlx hly hlz hC hc FP1 FP2 FN
 have hn3 := FL.out
 rw [hn3]
 clear hn3
 have q0 := (Ja39_ B8.out 0).trans (show _ = some (Value.slice A1 t1.length c1) from rfl)
 have q1 := (Ja39_ B8.out 1).trans (show _ = some (Value.slice A2 t2.length c2) from rfl)
 have q2 := (Ja39_ B8.out 2).trans (show _ = some (Value.slice A3 t3.length c3) from rfl)
 go_wp2_with fail
 refine start_ (n := 29) (S := fun w' => w'.cell? ⟨f8, 0, none⟩ = some (.slice A1 t1.length c1) ∧ w'.cell? ⟨f8, 1, none⟩ = some (.slice A2 t2.length c2) ∧ w'.cell? ⟨f8, 2, none⟩ = some (.slice A3 t3.length c3) ∧ w'.cell? ad0 = some (.slice AX x.length cX) ∧ w'.cell? ⟨ad0.block, ad0.off + 1, none⟩ = some (.slice AY y.length cY) ∧ w'.cell? ⟨ad0.block, ad0.off + 2, none⟩ = some (.slice AZ z.length cZ)) (ds := []) (bz_ 29 0) (by kernel_rfl) rfl rfl ⟨q0, q1, q2, hx, hy, hz⟩ (fun hHeld => ?_); refine with_tabW J23_.tab3 J23_.bits3 (fun HT_ HW_ => ?_)
 replace C1 := Ja38_.mk (Kd.F_drew C1.out)
 replace C2 := Ja38_.mk (Kd.F_drew C2.out)
 replace C3 := Ja38_.mk (Kd.F_drew C3.out)
 replace KX := Ja38_.mk (Kd.C_drew KX.out)
 replace KY := Ja38_.mk (Kd.C_drew KY.out)
 replace KZ := Ja38_.mk (Kd.C_drew KZ.out)
 replace B8 := Ja38_.mk (Ja49_ B8.out)
 replace B6 := Ja38_.mk (Ja49_ B6.out)
 replace HB := Ja38_.mk (Ja42_ HB.out)
 clear q0 q1 q2 hx hy hz
 generalize w7.drew = wd at C1 C2 C3 KX KY KZ B8 B6 HB hHeld ⊢
 refine pure_ (i := 0) (N := some 28) (v := ?_) (a' := ?_) (bz_ 29 1) rfl rfl (any_of HT_.out (by kernel_rfl)) (fun _ _ _ h => h) (Or.inl ⟨by rfl, ?_⟩) ?_ ?_
 rotate_left
 ·intro w'
  go_simp
  with_reducible rfl
 rotate_left
 ·simp only [Act.put, sA_, sB_, sC_, i64_w, i32_w]
  rfl
 refine take_ (i := 1) (N := some 29) (v := ?_) (a' := ?_) (bz_ 29 3) rfl rfl (Ja52_ HT_.out HW_.out (by kernel_rfl)) (fun _ _ _ h => h) (Or.inl ⟨by rfl, ?_⟩) hHeld ?_ ?_
 rotate_left
 ·rintro w' ⟨s0, s1, s2, s3, s4, s5⟩
  go_simp
  with_reducible rfl
 rotate_left
 ·simp only [Act.put, sA_, sB_, sC_, i64_w, i32_w]
  rfl
 refine pure_ (i := 2) (N := some 30) (v := ?_) (a' := ?_) (bz_ 29 7) rfl rfl (any_of HT_.out (by kernel_rfl)) (fun _ _ _ h => h) (Or.inl ⟨by rfl, ?_⟩) ?_ ?_
 rotate_left
 ·intro w'
  go_simp
  with_reducible rfl
 rotate_left
 ·simp only [Act.put, sA_, sB_, sC_, i64_w, i32_w]
  rfl
 refine pure_ (i := 3) (N := some 31) (v := ?_) (a' := ?_) (bz_ 29 15) rfl rfl (any_of HT_.out (by kernel_rfl)) (fun _ _ _ h => h) (Or.inl ⟨by rfl, ?_⟩) ?_ ?_
 rotate_left
 ·intro w'
  go_simp
  with_reducible rfl
 rotate_left
 ·simp only [Act.put, sA_, sB_, sC_, i64_w, i32_w]
  rfl
 refine take_ (i := 4) (N := some 32) (v := ?_) (a' := ?_) (bz_ 29 31) rfl rfl (Ja52_ HT_.out HW_.out (by kernel_rfl)) (fun _ _ _ h => h) (Or.inl ⟨by rfl, ?_⟩) hHeld ?_ ?_
 rotate_left
 ·rintro w' ⟨s0, s1, s2, s3, s4, s5⟩
  go_simp
  with_reducible rfl
 rotate_left
 ·simp only [Act.put, sA_, sB_, sC_, i64_w, i32_w]
  rfl
 refine pure_ (i := 5) (N := some 33) (v := ?_) (a' := ?_) (bz_ 29 63) rfl rfl (any_of HT_.out (by kernel_rfl)) (fun _ _ _ h => h) (Or.inl ⟨by rfl, ?_⟩) ?_ ?_
 rotate_left
 ·intro w'
  go_simp
  with_reducible rfl
 rotate_left
 ·simp only [Act.put, sA_, sB_, sC_, i64_w, i32_w]
  rfl
 refine pure_ (i := 6) (N := some 34) (v := ?_) (a' := ?_) (bz_ 29 127) rfl rfl (any_of HT_.out (by kernel_rfl)) (fun _ _ _ h => h) (Or.inl ⟨by rfl, ?_⟩) ?_ ?_
 rotate_left
 ·intro w'
  go_simp
  with_reducible rfl
 rotate_left
 ·simp only [Act.put, sA_, sB_, sC_, i64_w, i32_w]
  rfl
 refine take_ (i := 7) (N := some 35) (v := ?_) (a' := ?_) (bz_ 29 255) rfl rfl (Ja52_ HT_.out HW_.out (by kernel_rfl)) (fun _ _ _ h => h) (Or.inl ⟨by rfl, ?_⟩) hHeld ?_ ?_
 rotate_left
 ·rintro w' ⟨s0, s1, s2, s3, s4, s5⟩
  go_simp
  with_reducible rfl
 rotate_left
 ·simp only [Act.put, sA_, sB_, sC_, i64_w, i32_w]
  rfl
 refine pure_ (i := 8) (N := some 36) (v := ?_) (a' := ?_) (bz_ 29 511) rfl rfl (any_of HT_.out (by kernel_rfl)) (fun _ _ _ h => h) (Or.inl ⟨by rfl, ?_⟩) ?_ ?_
 rotate_left
 ·intro w'
  go_simp
  with_reducible rfl
 rotate_left
 ·simp only [Act.put, sA_, sB_, sC_, i64_w, i32_w]
  rfl
 refine pure_ (i := 9) (N := some 37) (v := ?_) (a' := ?_) (bz_ 29 1023) rfl rfl (any_of HT_.out (by kernel_rfl)) (fun _ _ _ h => h) (Or.inl ⟨by rfl, ?_⟩) ?_ ?_
 rotate_left
 ·intro w'
  go_simp
  with_reducible rfl
 rotate_left
 ·simp only [Act.put, sA_, sB_, sC_, i64_w, i32_w]
  rfl
 refine pure_ (i := 10) (N := some 38) (v := ?_) (a' := ?_) (bz_ 29 2047) rfl rfl (any_of HT_.out (by kernel_rfl)) (fun _ _ _ h => h) (Or.inl ⟨by rfl, ?_⟩) ?_ ?_
 rotate_left
 ·intro w'
  go_simp
  with_reducible rfl
 rotate_left
 ·simp only [Act.put, sA_, sB_, sC_, i64_w, i32_w]
  rfl
 refine take_ (i := 11) (N := some 39) (v := ?_) (a' := ?_) (bz_ 29 4095) rfl rfl (Ja52_ HT_.out HW_.out (by kernel_rfl)) (fun _ _ _ h => h) (Or.inl ⟨by rfl, ?_⟩) hHeld ?_ ?_
 rotate_left
 ·rintro w' ⟨s0, s1, s2, s3, s4, s5⟩
  go_simp
  with_reducible rfl
 rotate_left
 ·simp only [Act.put, sA_, sB_, sC_, i64_w, i32_w]
  rfl
 refine pure_ (i := 12) (N := some 40) (v := ?_) (a' := ?_) (bz_ 29 8191) rfl rfl (any_of HT_.out (by kernel_rfl)) (fun _ _ _ h => h) (Or.inl ⟨by rfl, ?_⟩) ?_ ?_
 rotate_left
 ·intro w'
  go_simp
  with_reducible rfl
 rotate_left
 ·simp only [Act.put, sA_, sB_, sC_, i64_w, i32_w]
  rfl
 refine pure_ (i := 13) (N := some 41) (v := ?_) (a' := ?_) (bz_ 29 16383) rfl rfl (any_of HT_.out (by kernel_rfl)) (fun _ _ _ h => h) (Or.inl ⟨by rfl, ?_⟩) ?_ ?_
 rotate_left
 ·intro w'
  go_simp
  with_reducible rfl
 rotate_left
 ·simp only [Act.put, sA_, sB_, sC_, i64_w, i32_w]
  rfl
 refine take_ (i := 14) (N := some 42) (v := ?_) (a' := ?_) (bz_ 29 32767) rfl rfl (Ja52_ HT_.out HW_.out (by kernel_rfl)) (fun _ _ _ h => h) (Or.inl ⟨by rfl, ?_⟩) hHeld ?_ ?_
 rotate_left
 ·rintro w' ⟨s0, s1, s2, s3, s4, s5⟩
  go_simp
  with_reducible rfl
 rotate_left
 ·simp only [Act.put, sA_, sB_, sC_, i64_w, i32_w]
  rfl
 refine pure_ (i := 16) (N := some 44) (v := ?_) (a' := ?_) (bz_ 29 98303) rfl rfl (any_of HT_.out (by kernel_rfl)) (fun _ _ _ h => h) (Or.inl ⟨by rfl, ?_⟩) ?_ ?_
 rotate_left
 ·intro w'
  go_simp
  with_reducible rfl
 rotate_left
 ·simp only [Act.put, sA_, sB_, sC_, i64_w, i32_w]
  rfl
 refine pure_ (i := 17) (N := some 45) (v := ?_) (a' := ?_) (bz_ 29 229375) rfl rfl (any_of HT_.out (by kernel_rfl)) (fun _ _ _ h => h) (Or.inl ⟨by rfl, ?_⟩) ?_ ?_
 rotate_left
 ·intro w'
  go_simp
  with_reducible rfl
 rotate_left
 ·simp only [Act.put, sA_, sB_, sC_, i64_w, i32_w]
  rfl
 refine take_ (i := 18) (N := some 46) (v := ?_) (a' := ?_) (bz_ 29 491519) rfl rfl (Ja52_ HT_.out HW_.out (by kernel_rfl)) (fun _ _ _ h => h) (Or.inl ⟨by rfl, ?_⟩) hHeld ?_ ?_
 rotate_left
 ·rintro w' ⟨s0, s1, s2, s3, s4, s5⟩
  go_simp
  with_reducible rfl
 rotate_left
 ·simp only [Act.put, sA_, sB_, sC_, i64_w, i32_w]
  rfl
 refine pure_ (i := 19) (N := some 47) (v := ?_) (a' := ?_) (bz_ 29 1015807) rfl rfl (any_of HT_.out (by kernel_rfl)) (fun _ _ _ h => h) (Or.inl ⟨by rfl, ?_⟩) ?_ ?_
 rotate_left
 ·intro w'
  go_simp
  with_reducible rfl
 rotate_left
 ·simp only [Act.put, sA_, sB_, sC_, i64_w, i32_w]
  rfl
 refine pure_ (i := 20) (N := some 48) (v := ?_) (a' := ?_) (bz_ 29 2064383) rfl rfl (any_of HT_.out (by kernel_rfl)) (fun _ _ _ h => h) (Or.inl ⟨by rfl, ?_⟩) ?_ ?_
 rotate_left
 ·intro w'
  go_simp
  with_reducible rfl
 rotate_left
 ·simp only [Act.put, sA_, sB_, sC_, i64_w, i32_w]
  rfl
 refine take_ (i := 21) (N := some 49) (v := ?_) (a' := ?_) (bz_ 29 4161535) rfl rfl (Ja52_ HT_.out HW_.out (by kernel_rfl)) (fun _ _ _ h => h) (Or.inl ⟨by rfl, ?_⟩) hHeld ?_ ?_
 rotate_left
 ·rintro w' ⟨s0, s1, s2, s3, s4, s5⟩
  go_simp
  with_reducible rfl
 rotate_left
 ·simp only [Act.put, sA_, sB_, sC_, i64_w, i32_w]
  rfl
 refine one_ (i := 15) (N := some 43) (bz_ 29 4194303) rfl rfl (one_of HT_.out (by kernel_rfl)) (by decide) (fun K hK => ?_)
 refine goes_ Try.func118 (by kernel_rfl) rfl #[.slice AX x.length cX, .slice AY y.length cY] (by rfl) rfl rfl (by (try simp only [List.map_toArray, List.map_cons, List.map_nil]); first | done | rfl) ?_
 refine (J32_.calls k (fun k => k < _) AX cX x (fun k => k < _) AY cY y p1 _ (Kd.V_mk MX.out (Kd.C_F (Kd.heap_int .i64) KX.out)) (Kd.V_mk MY.out (Kd.C_F (Kd.heap_int .i64) KY.out)) G1.out).mono ?_
 rintro e w8 ⟨v0_, rfl, hR, hb⟩
 obtain ⟨P1, d1, rfl, hc, hC⟩ := Kd.R_reads hR
 replace C1 := Ja38_.mk (F_on71 C1.out hb)
 replace C2 := Ja38_.mk (F_on71 C2.out hb)
 replace C3 := Ja38_.mk (F_on71 C3.out hb)
 replace KX := Ja38_.mk (Kd.C_below KX.out hb)
 replace KY := Ja38_.mk (Kd.C_below KY.out hb)
 replace KZ := Ja38_.mk (Kd.C_below KZ.out hb)
 replace B8 := Ja38_.mk (Ja47_ B8.out hb)
 replace B6 := Ja38_.mk (Ja47_ B6.out hb)
 replace HB := Ja38_.mk (Ja44_ HB.out hb)
 have CP := Ja38_.mk hC
 have LP := Ja38_.mk hc
 refine ⟨_, rfl, ?_⟩
 refine hK.out _ _ (hold6_71 hb hHeld) (fun hHeld => ?_)
 clear hb hR hc hC
 clear hK K
 refine norm_ (a' := ?_) ?_ ?_
 rotate_left
 ·show Act.put _ (some 43) _ = _
  simp only [Act.put, sA_, sB_, sC_, i64_w, i32_w]
  rfl
 refine one_ (i := 22) (N := some 50) (bz_ 29 8388607) rfl rfl (one_of HT_.out (by kernel_rfl)) (by decide) (fun K hK => ?_)
 refine goes_ Try.func118 (by kernel_rfl) rfl #[.slice AX x.length cX, .slice AZ z.length cZ] (by rfl) rfl rfl (by (try simp only [List.map_toArray, List.map_cons, List.map_nil]); first | done | rfl) ?_
 refine (J32_.calls k (fun k => k < _) AX cX x (fun k => k < _) AZ cZ z p2 _ (Kd.V_mk MX.out (Kd.C_F (Kd.heap_int .i64) KX.out)) (Kd.V_mk MZ.out (Kd.C_F (Kd.heap_int .i64) KZ.out)) G2.out).mono ?_
 rintro e w9 ⟨v0_, rfl, hR, hb⟩
 obtain ⟨P2, d2, rfl, hc, hC⟩ := Kd.R_reads hR
 replace C1 := Ja38_.mk (F_on71 C1.out hb)
 replace C2 := Ja38_.mk (F_on71 C2.out hb)
 replace C3 := Ja38_.mk (F_on71 C3.out hb)
 replace KX := Ja38_.mk (Kd.C_below KX.out hb)
 replace KY := Ja38_.mk (Kd.C_below KY.out hb)
 replace KZ := Ja38_.mk (Kd.C_below KZ.out hb)
 replace CP := Ja38_.mk (Kd.C_below CP.out hb)
 replace B8 := Ja38_.mk (Ja47_ B8.out hb)
 replace B6 := Ja38_.mk (Ja47_ B6.out hb)
 replace HB := Ja38_.mk (Ja44_ HB.out hb)
 have CQ := Ja38_.mk hC
 have LQ := Ja38_.mk hc
 refine ⟨_, rfl, ?_⟩
 refine hK.out _ _ (hold6_71 hb hHeld) (fun hHeld => ?_)
 clear hb hR hc hC
 clear hK K
 refine norm_ (a' := ?_) ?_ ?_
 rotate_left
 ·show Act.put _ (some 50) _ = _
  simp only [Act.put, sA_, sB_, sC_, i64_w, i32_w]
  rfl
 refine one_ (i := 23) (N := some 51) (bz_ 29 16777215) rfl rfl (one_of HT_.out (by kernel_rfl)) (by decide) (fun K hK => ?_)
 refine goes_ Try.func50 (by kernel_rfl) rfl #[.int .i64 (t1.length : Int), .int .i64 (t2.length : Int), .int .i64 (t3.length : Int), .slice P1 p1.length d1, .slice P2 p2.length d2] (by rfl) rfl rfl (by (try simp only [List.map_toArray, List.map_cons, List.map_nil]); first | done | rfl) ?_
 refine (J35_.calls k (t1.length : Int) (t2.length : Int) (t3.length : Int) P1 d1 p1 P2 d2 p2 cs okr _ CP.out LP.out CQ.out LQ.out FO.out).mono ?_
 rintro e wz ⟨v0_, rfl, hR, hb⟩
 obtain ⟨P3, d3, rfl, hc, hC⟩ := Kd.R_reads hR
 have CRF := Ja38_.mk (away71b rfl hR (Ja45_ HB.out) (blk_lt B6.out))
 replace C1 := Ja38_.mk (F_on71 C1.out hb)
 replace C2 := Ja38_.mk (F_on71 C2.out hb)
 replace C3 := Ja38_.mk (F_on71 C3.out hb)
 replace KX := Ja38_.mk (Kd.C_below KX.out hb)
 replace KY := Ja38_.mk (Kd.C_below KY.out hb)
 replace KZ := Ja38_.mk (Kd.C_below KZ.out hb)
 replace CP := Ja38_.mk (Kd.C_below CP.out hb)
 replace CQ := Ja38_.mk (Kd.C_below CQ.out hb)
 replace B8 := Ja38_.mk (Ja47_ B8.out hb)
 replace B6 := Ja38_.mk (Ja47_ B6.out hb)
 replace HB := Ja38_.mk (Ja44_ HB.out hb)
 have CR := Ja38_.mk hC
 have LR := Ja38_.mk hc
 refine ⟨_, rfl, ?_⟩
 refine hK.out _ _ (hold6_71 hb hHeld) (fun hHeld => ?_)
 clear hb hR hc hC
 clear hK K
 refine norm_ (a' := ?_) ?_ ?_
 rotate_left
 ·show Act.put _ (some 51) _ = _
  simp only [Act.put, sA_, sB_, sC_, i64_w, i32_w]
  rfl
 refine pure_ (i := 24) (N := some 27) (v := ?_) (a' := ?_) (bz_ 29 33554431) rfl rfl (any_of HT_.out (by kernel_rfl)) (fun _ _ _ h => h) (Or.inl ⟨by rfl, ?_⟩) ?_ ?_
 rotate_left
 ·intro w'
  go_simp
  with_reducible rfl
 rotate_left
 ·simp only [Act.put, sA_, sB_, sC_, i64_w, i32_w]
  rfl
 refine pure_ (i := 25) (N := some 52) (v := ?_) (a' := ?_) (bz_ 29 67108863) rfl rfl (any_of HT_.out (by kernel_rfl)) (fun _ _ _ h => h) (Or.inl ⟨by rfl, ?_⟩) ?_ ?_
 rotate_left
 ·intro w'
  go_simp
  with_reducible rfl
 rotate_left
 ·simp only [Act.put, sA_, sB_, sC_, i64_w, i32_w]
  rfl
 refine pure_ (i := 26) (N := some 53) (v := ?_) (a' := ?_) (bz_ 29 134217727) rfl rfl (any_of HT_.out (by kernel_rfl)) (fun _ _ _ h => h) (Or.inl ⟨by rfl, ?_⟩) ?_ ?_
 rotate_left
 ·intro w'
  go_simp
  with_reducible rfl
 rotate_left
 ·simp only [Act.put, sA_, sB_, sC_, i64_w, i32_w]
  rfl
 refine pure_ (i := 27) (N := some 10) (v := ?_) (a' := ?_) (bz_ 29 268435455) rfl rfl (any_of HT_.out (by kernel_rfl)) (fun _ _ _ h => h) (Or.inl ⟨by rfl, ?_⟩) ?_ ?_
 rotate_left
 ·intro w'
  go_simp
  with_reducible rfl
 rotate_left
 ·simp only [Act.put, sA_, sB_, sC_, i64_w, i32_w]
  rfl
 refine pure_ (i := 28) (N := some 11) (v := ?_) (a' := ?_) (bz_ 29 536870911) rfl rfl (any_of HT_.out (by kernel_rfl)) (fun _ _ _ h => h) (Or.inl ⟨by rfl, ?_⟩) ?_ ?_
 rotate_left
 ·intro w'
  go_simp
  with_reducible rfl
 rotate_left
 ·simp only [Act.put, sA_, sB_, sC_, i64_w, i32_w]
  rfl
 refine done_ (done_of HT_.out (by kernel_rfl)) ?_
 clear hHeld
 have q0 := (Ja39_ B8.out 0).trans (show _ = some (Value.slice A1 t1.length c1) from rfl)
 have q1 := (Ja39_ B8.out 1).trans (show _ = some (Value.slice A2 t2.length c2) from rfl)
 have q2 := (Ja39_ B8.out 2).trans (show _ = some (Value.slice A3 t3.length c3) from rfl)
 have y0 := (Ja39_ B6.out 0).trans (show _ = some (Value.slice none 0 0) from rfl)
 have y1 := (Ja39_ B6.out 1).trans (show _ = some (Value.slice none 0 0) from rfl)
 have y2 := (Ja39_ B6.out 2).trans (show _ = some (Value.slice none 0 0) from rfl)
 have x0 := Ja40_ B6.out 0
 have x1 := Ja40_ B6.out 1
 have x2 := Ja40_ B6.out 2
 go_wp2_with fail
 refine bodyPost_ret (results_ct rfl _ _ f6 107 _ (0, 0) _ rfl (fill3_107 B6.out (.slice A1 t1.length c1) (.slice A2 t2.length c2) (.slice A3 t3.length c3)) hu107 rfl (by kernel_rfl)) rfl ?_
 exact ⟨A1, A2, A3, P3, c1, c2, c3, d3, rfl, ⟨F_set3b C1.out _ _ _, L1.out⟩, ⟨F_set3b C2.out _ _ _, L2.out⟩, ⟨F_set3b C3.out _ _ _, L3.out⟩, ⟨F_set3b CRF.out _ _ _, LR.out⟩, below3 HB.out GE6.out _ _ _⟩
theorem J23_.calls (k : Nat) (a0 a1 a2 : ByteArray) (s1 s2 s3 : List ByteArray) (l : List S81) (w : World) (h : J23_.f k a0 a1 a2 = some (s1, s2, s3, l)) :
  Calls Try.prog 71 #[.string a0, .string a1, .string a2] w fun e w' => ∃ (A0 A1 A2 A3 : Option Addr) (c0 c1 c2 c3 : Nat), e = .returned (.tuple #[.agg #[.slice A0 s1.length c0, .slice A1 s2.length c1, .slice A2 s3.length c2], .slice A3 l.length c3]) ∧ (Kd.C Kd.string w' A0 s1.length s1 ∧ s1.length ≤ c0) ∧ (Kd.C Kd.string w' A1 s2.length s2 ∧ s2.length ≤ c1) ∧ (Kd.C Kd.string w' A2 s3.length s3 ∧ s3.length ≤ c2) ∧ (Kd.C k81 w' A3 l.length l ∧ l.length ≤ c3) ∧ Below w.heap.size w w'  := by
 refine (J23_.callsF k a0 a1 a2 s1 s2 s3 l w h).mono ?_
 rintro e w' ⟨A0, A1, A2, A3, c0, c1, c2, c3, he, ⟨h0, g0⟩, ⟨h1, g1⟩, ⟨h2, g2⟩, ⟨h3, g3⟩, hb⟩
 exact ⟨A0, A1, A2, A3, c0, c1, c2, c3, he, ⟨Kd.F_now h0, g0⟩, ⟨Kd.F_now h1, g1⟩, ⟨Kd.F_now h2, g2⟩, ⟨Kd.F_now h3, g3⟩, hb⟩
end Go.Proofs.Ytadafplbgophfaa.PA
end
section
namespace Go.Proofs.Ytadafplbgophfaa.PA
set_option linter.unusedSimpArgs false
set_option linter.unusedVariables false
open Go.RowKit Go.Proofs.YtadafplbgophfaaW.PrintWords Go.Proofs.YtadafplbgophfaaW.PrintLast Go.Proofs.YtadafplbgophfaaW.PrintMore
namespace FavT
theorem w64 {x : Int} (h0 : -9223372036854775808 ≤ x) (h1 : x ≤ 9223372036854775807) : wrap64 x = x := by unfold wrap64; omega
theorem up64 {i : Nat} (h : i ≤ 1000000000000000) : wrap64 ((i : Int) + 1) = ((i + 1 : Nat) : Int) := by rw [w64 (by omega) (by omega)]; omega
theorem dn64 {i : Nat} (h0 : 0 < i) (h : i ≤ 1000000000000000) : wrap64 ((i : Int) - 1) = ((i - 1 : Nat) : Int) := by rw [w64 (by omega) (by omega)]; omega
theorem short_ok (t : ByteArray) : ∃ s, J25_.f t = some s ∧ s.size ≤ 200 := by
  unfold J25_.f mn
  split
  · refine ⟨_, by rw [if_pos (by omega), if_pos (by omega)], ?_⟩
    simp only [ByteArray.size_extract]; omega
  · refine ⟨_, by rw [if_pos (by omega), if_pos (by omega)], ?_⟩
    simp only [ByteArray.size_extract]; omega
theorem split_go (s : ByteArray) (hs : s.size ≤ 1000) : ∀ (n i : Nat) (acc : List ByteArray) (fr : Nat), s.size - i ≤ n → i ≤ s.size → fr ≤ i → acc.length ≤ i → (∀ x ∈ acc, x.size ≤ s.size) →
    ∃ ls, Ev (fun k => J30_.l0 k s acc (fr : Int) (i : Int)) ls ∧ ls.length ≤ s.size ∧ ∀ x ∈ ls, x.size ≤ s.size := by
  intro n
  induction n with
  | zero =>
    intro i acc fr h1 h2 h3 h4 h5
    refine ⟨acc, Ev.step (f := fun _ => some acc) (fun k => ?_) (Ev.now _), by omega, h5⟩
    simp only [J30_.l0]; rw [if_neg (by omega)]
  | succ n ih =>
    intro i acc fr h1 h2 h3 h4 h5
    by_cases hi : i < s.size
    · have hw := up64 (i := i) (by omega)
      have g1 : (i : Int) < (s.size : Int) := by omega
      have g2 : (0 : Int) ≤ (i : Int) := by omega
      have g3 : (0 : Int) ≤ (fr : Int) := by omega
      have g4 : (fr : Int) ≤ ((i + 1 : Nat) : Int) := by omega
      have g5 : ((i + 1 : Nat) : Int) ≤ (s.size : Int) := by omega
      have g6 : acc.length < 8796093022208 := by omega
      have h6 : ∀ x ∈ acc ++ [s.extract fr (i + 1)], x.size ≤ s.size := by
        intro x hx
        rcases List.mem_append.1 hx with h | h
        · exact h5 x h
        · rw [List.mem_singleton.1 h, ByteArray.size_extract]; omega
      by_cases hb : bt s (i : Int) = 10
      · obtain ⟨ls, he, hl, hz⟩ := ih (i + 1) (acc ++ [s.extract fr (i + 1)]) (i + 1) (by omega) (by omega) (by omega) (by rw [List.length_append, List.length_singleton]; omega) h6
        refine ⟨ls, Ev.step (fun k => ?_) he, hl, hz⟩
        simp only [J30_.l0]
        rw [hw, if_pos g1, if_pos g2, if_pos hb, if_pos g3, if_pos g4, if_pos g5, if_pos g6, Int.toNat_natCast, Int.toNat_natCast]
      · by_cases hl : i + 1 = s.size
        · have g7 : ((i + 1 : Nat) : Int) = (s.size : Int) := by omega
          obtain ⟨ls, he, hl, hz⟩ := ih (i + 1) (acc ++ [s.extract fr (i + 1)]) (i + 1) (by omega) (by omega) (by omega) (by rw [List.length_append, List.length_singleton]; omega) h6
          refine ⟨ls, Ev.step (fun k => ?_) he, hl, hz⟩
          simp only [J30_.l0]
          rw [hw, if_pos g1, if_pos g2, if_neg hb, if_pos g7, if_pos g3, if_pos g4, if_pos g5, if_pos g6, Int.toNat_natCast, Int.toNat_natCast]
        · have g7 : ¬ ((i + 1 : Nat) : Int) = (s.size : Int) := by omega
          obtain ⟨ls, he, hl, hz⟩ := ih (i + 1) acc fr (by omega) (by omega) (by omega) (by omega) h5
          refine ⟨ls, Ev.step (fun k => ?_) he, hl, hz⟩
          simp only [J30_.l0]
          rw [hw, if_pos g1, if_pos g2, if_neg hb, if_neg g7]
    · refine ⟨acc, Ev.step (f := fun _ => some acc) (fun k => ?_) (Ev.now _), by omega, h5⟩
      simp only [J30_.l0]; rw [if_neg (by omega)]
theorem split_ok (s : ByteArray) (hs : s.size ≤ 1000) : ∃ ls, Ev (fun k => J30_.f k s) ls ∧ ls.length ≤ s.size ∧ ∀ x ∈ ls, x.size ≤ s.size :=
  split_go s hs s.size 0 [] 0 (by omega) (by omega) (by omega) (Nat.le_refl _) (by simp)
open Chk Go.Proofs.Ytadafplbgophfaa.TriLcs
theorem rise_mem {a b : Int} : ∀ (l : List S37) (pa pb : Int), riseB a b pa pb l = true → ∀ p ∈ l, pa < p.f0 ∧ p.f0 < a ∧ pb < p.f1 ∧ p.f1 < b
  | [], _, _, _, p, hp => by simp at hp
  | q :: l, pa, pb, h, p, hp => by
    obtain ⟨⟨h1, h2, h3, h4⟩, h5⟩ := riseB_cons.1 h
    rcases List.mem_cons.1 hp with e | e
    · subst e; exact ⟨h1, h3, h2, h4⟩
    · obtain ⟨g1, g2, g3, g4⟩ := rise_mem l _ _ h5 p e
      exact ⟨by omega, g2, by omega, g4⟩
theorem rise_mono {a b a' b' : Int} (ha : a ≤ a') (hb : b ≤ b') : ∀ (l : List S37) (pa pb : Int), riseB a b pa pb l = true → riseB a' b' pa pb l = true
  | [], _, _, _ => rfl
  | q :: l, pa, pb, h => by
    obtain ⟨⟨h1, h2, h3, h4⟩, h5⟩ := riseB_cons.1 h
    exact riseB_cons.2 ⟨⟨h1, h2, by omega, by omega⟩, rise_mono ha hb l _ _ h5⟩
theorem rise_snoc {n m : Int} : ∀ (l : List S37) (pa pb : Int), riseB n m pa pb l = true → pa < n → pb < m → riseB (n + 1) (m + 1) pa pb (l ++ [⟨n, m⟩]) = true
  | [], pa, pb, _, h1, h2 => riseB_cons.2 ⟨⟨h1, h2, by show n < n + 1; omega, by show m < m + 1; omega⟩, rfl⟩
  | q :: l, pa, pb, h, _, _ => by
    obtain ⟨⟨h1, h2, h3, h4⟩, h5⟩ := riseB_cons.1 h
    exact riseB_cons.2 ⟨⟨h1, h2, by omega, by omega⟩, rise_snoc l _ _ h5 h3 h4⟩
theorem rd_take (a : List Int) (n : Nat) (i : Int) (h0 : 0 ≤ i) (h : i < n) : rd (a.take n) i = rd a i := by
  have : i.toNat < n := by omega
  simp [rd, List.getD_eq_getElem?_getD, List.getElem?_take, this]
theorem some_go : ∀ (n : Nat) (a b : List Int) (acc : List S37), a.length + b.length ≤ n → n ≤ 10000 → acc.length + a.length ≤ 10000 →
    ∃ ps, Ev (fun k => J32_.l0 k a b acc) (ps ++ acc) ∧ riseB a.length b.length (-1) (-1) ps = true ∧ (∀ p ∈ ps, rd a p.f0 = rd b p.f1) ∧ ps.length ≤ a.length := by
  intro n
  induction n with
  | zero =>
    intro a b acc h1 h2 h3
    refine ⟨[], Ev.step (f := fun k => J32_.j1 k a b acc false) (fun k => ?_) (Ev.step (f := fun _ => some acc) (fun k => ?_) (Ev.now _)), rfl, by simp, Nat.zero_le _⟩
    · simp only [J32_.l0]; rw [if_neg (by omega)]
    · simp only [J32_.j1]; rw [if_neg (by simp)]
  | succ n ih =>
    intro a b acc h1 h2 h3
    by_cases ha : 0 < a.length
    · by_cases hb : 0 < b.length
      · have wa := dn64 ha (by omega)
        have wb := dn64 hb (by omega)
        have lta : (a.take (a.length - 1)).length = a.length - 1 := by rw [List.length_take]; omega
        have ltb : (b.take (b.length - 1)).length = b.length - 1 := by rw [List.length_take]; omega
        have p1 : (0 : Int) ≤ ((a.length - 1 : Nat) : Int) := by omega
        have p2 : ((a.length - 1 : Nat) : Int) < (a.length : Int) := by omega
        have p3 : (0 : Int) ≤ ((b.length - 1 : Nat) : Int) := by omega
        have p4 : ((b.length - 1 : Nat) : Int) < (b.length : Int) := by omega
        have p5 : ((a.length - 1 : Nat) : Int) ≤ (a.length : Int) := by omega
        have p6 : ((b.length - 1 : Nat) : Int) ≤ (b.length : Int) := by omega
        have start : ∀ {r}, Ev (fun k => J32_.j1 k a b acc true) r → Ev (fun k => J32_.l0 k a b acc) r := fun h => Ev.step (fun k => by
          simp only [J32_.l0]; rw [if_pos (by omega), show decide ((b.length : Int) > 0) = true from decide_eq_true (by omega)]) h
        by_cases he : rd a ((a.length - 1 : Nat) : Int) = rd b ((b.length - 1 : Nat) : Int)
        · obtain ⟨ps, hE, hr, hq, hlen⟩ := ih (a.take (a.length - 1)) (b.take (b.length - 1)) ([(⟨((a.length - 1 : Nat) : Int), ((b.length - 1 : Nat) : Int)⟩ : S37)] ++ acc) (by rw [lta, ltb]; omega) (by omega) (by rw [lta, List.length_append, List.length_singleton]; omega)
          rw [lta, ltb] at hr
          rw [lta] at hlen
          have hm := rise_mem ps _ _ hr
          refine ⟨ps ++ [⟨((a.length - 1 : Nat) : Int), ((b.length - 1 : Nat) : Int)⟩], start (Ev.step (fun k => ?_) (by rw [List.append_assoc]; exact hE)), ?_, ?_, by rw [List.length_append, List.length_singleton]; omega⟩
          · simp only [J32_.j1]
            rw [wa, wb, if_pos trivial, if_pos p1, if_pos p2, if_pos p3, if_pos p4, if_pos he, Option.bind_some, if_pos (by rw [List.length_singleton]; omega), if_pos p5, if_pos p6, Int.toNat_natCast, Int.toNat_natCast]
          · have := rise_snoc ps (-1) (-1) hr (by omega) (by omega)
            rwa [show ((a.length - 1 : Nat) : Int) + 1 = (a.length : Int) by omega, show ((b.length - 1 : Nat) : Int) + 1 = (b.length : Int) by omega] at this
          · intro p hp
            rcases List.mem_append.1 hp with e | e
            · obtain ⟨g1, g2, g3, g4⟩ := hm p e
              have := hq p e
              rwa [rd_take a _ _ (by omega) g2, rd_take b _ _ (by omega) g4] at this
            · rw [List.mem_singleton.1 e]; exact he
        · have L1 := length_ok (a.take (a.length - 1)) b (by rw [lta]; omega) (by omega)
          have L2 := length_ok a b (by omega) (by omega)
          have go : ∀ {r}, Ev (fun k => if ((lcs (a.take (a.length - 1)) b : Nat) : Int) = ((lcs a b : Nat) : Int) then J32_.l0 k (a.take (a.length - 1)) b acc else J32_.l0 k a (b.take (b.length - 1)) acc) r → Ev (fun k => J32_.j1 k a b acc true) r := by
            intro r h
            refine Ev.step (f := fun k => (J31_.f k (a.take (a.length - 1)) b).bind fun t => (J31_.f k a b).bind fun u => if t = u then J32_.l0 k (a.take (a.length - 1)) b acc else J32_.l0 k a (b.take (b.length - 1)) acc) (fun k => ?_) (Ev.bind L1 (Ev.bind L2 h))
            simp only [J32_.j1]
            rw [wa, wb, if_pos trivial, if_pos p1, if_pos p2, if_pos p3, if_pos p4, if_neg he, if_pos p5, if_pos p6, Int.toNat_natCast, Int.toNat_natCast]
          by_cases hc : ((lcs (a.take (a.length - 1)) b : Nat) : Int) = ((lcs a b : Nat) : Int)
          · obtain ⟨ps, hE, hr, hq, hlen⟩ := ih (a.take (a.length - 1)) b acc (by rw [lta]; omega) (by omega) (by rw [lta]; omega)
            rw [lta] at hr hlen
            have hm := rise_mem ps _ _ hr
            refine ⟨ps, start (go (Ev.congr (fun k => if_pos hc) hE)), rise_mono (by omega) (Int.le_refl _) ps _ _ hr, fun p hp => ?_, by omega⟩
            obtain ⟨g1, g2, g3, g4⟩ := hm p hp
            rw [← hq p hp, rd_take a _ _ (by omega) g2]
          · obtain ⟨ps, hE, hr, hq, hlen⟩ := ih a (b.take (b.length - 1)) acc (by rw [ltb]; omega) (by omega) (by omega)
            rw [ltb] at hr
            have hm := rise_mem ps _ _ hr
            refine ⟨ps, start (go (Ev.congr (fun k => if_neg hc) hE)), rise_mono (Int.le_refl _) (by omega) ps _ _ hr, fun p hp => ?_, hlen⟩
            obtain ⟨g1, g2, g3, g4⟩ := hm p hp
            rw [hq p hp, rd_take b _ _ (by omega) g4]
      · refine ⟨[], Ev.step (f := fun k => J32_.j1 k a b acc false) (fun k => ?_) (Ev.step (f := fun _ => some acc) (fun k => ?_) (Ev.now _)), rfl, by simp, Nat.zero_le _⟩
        · simp only [J32_.l0]; rw [if_pos (by omega), show decide ((b.length : Int) > 0) = false from decide_eq_false (by omega)]
        · simp only [J32_.j1]; rw [if_neg (by simp)]
    · refine ⟨[], Ev.step (f := fun k => J32_.j1 k a b acc false) (fun k => ?_) (Ev.step (f := fun _ => some acc) (fun k => ?_) (Ev.now _)), rfl, by simp, Nat.zero_le _⟩
      · simp only [J32_.l0]; rw [if_neg (by omega)]
      · simp only [J32_.j1]; rw [if_neg (by simp)]
theorem some_ok (a b : List Int) (ha : a.length ≤ 1000) (hb : b.length ≤ 1000) : ∃ ps, Ev (fun k => J32_.f k a b) ps ∧ riseB a.length b.length (-1) (-1) ps = true ∧ (∀ p ∈ ps, rd a p.f0 = rd b p.f1) ∧ ps.length ≤ a.length := by
  obtain ⟨ps, h, r⟩ := some_go (a.length + b.length) a b [] (Nat.le_refl _) (by omega) (by simp only [List.length_nil]; omega)
  rw [List.append_nil] at h
  exact ⟨ps, h, r⟩
theorem matD_mem : ∀ (l : List S37) (o : Int), matD (-1) l o ≠ -1 → ∃ p ∈ l, p.f0 = o ∧ p.f1 = matD (-1) l o
  | [], _, h => absurd rfl h
  | p :: l, o, h => by
    rw [matD] at h ⊢
    split
    · exact ⟨p, List.mem_cons_self .., by assumption, rfl⟩
    · rename_i hn
      rw [if_neg hn] at h
      obtain ⟨q, hq, e⟩ := matD_mem l o h
      exact ⟨q, List.mem_cons_of_mem _ hq, e⟩
theorem num_later (a c : List ByteArray) (e : List (List UInt8)) {i k : Int} (h0 : 0 ≤ i) (h1 : i < a.length) (h2 : 0 ≤ k) (h3 : k < c.length) (h : rd (numFile [] a).1 i = rd (numFile ((numFile [] a).2 ++ e) c).1 k) : rdOf ByteArray.empty a i = rdOf ByteArray.empty c k := by
  rw [rd_numFile a [] h0 h1, rd_numFile c _ h2 h3] at h
  obtain ⟨⟨e2, he⟩, hb, _⟩ := numFile_spec c ((numFile [] a).2 ++ e)
  have ha := (numFile_spec a []).2.1
  have hlt : i.toNat < a.length := by omega
  have hlk : k.toNat < c.length := by omega
  have e1 : rdOf ByteArray.empty a i = a[i.toNat] := by simp [rdOf, List.getD_eq_getElem?_getD, hlt]
  have e2 : rdOf ByteArray.empty c k = c[k.toNat] := by simp [rdOf, List.getD_eq_getElem?_getD, hlk]
  rw [e1, e2] at h ⊢
  have m1 := ha _ (List.getElem_mem hlt)
  have m2 := hb _ (List.getElem_mem hlk)
  have m3 : (numFile [] a).2.idxOf a[i.toNat].data.toList = (numFile ((numFile [] a).2 ++ e) c).2.idxOf a[i.toNat].data.toList := by rw [he, List.append_assoc, List.idxOf_append, if_pos m1]
  rw [m3] at h
  refine data_eq.1 (idx_inj ?_ m2 (by omega))
  rw [he, List.append_assoc]; exact List.mem_append_left _ m1
structure SomeF (s0 s1 s2 : ByteArray) (l0 l1 l2 : List ByteArray) (cs : List S81) (f g : Int → Int) : Prop where
  some : Ev (fun k => J23_.f k s0 s1 s2) (l0, l1, l2, cs)
  n0 : l0.length ≤ 200
  n1 : l1.length ≤ 200
  n2 : l2.length ≤ 200
  z0 : ∀ x ∈ l0, x.size ≤ 200
  z1 : ∀ x ∈ l1, x.size ≤ 200
  z2 : ∀ x ∈ l2, x.size ≤ 200
  sw : Sw f g l0.length l1.length l2.length 0 0 0 cs
  nc : cs.length ≤ 600
  hf : ∀ o, 0 ≤ f o → 0 ≤ o ∧ o < l0.length ∧ f o < l1.length ∧ rdOf ByteArray.empty l0 o = rdOf ByteArray.empty l1 (f o)
  hg : ∀ o, 0 ≤ g o → 0 ≤ o ∧ o < l0.length ∧ g o < l2.length ∧ rdOf ByteArray.empty l0 o = rdOf ByteArray.empty l2 (g o)
theorem some_facts (s0 s1 s2 : ByteArray) (h0 : s0.size ≤ 200) (h1 : s1.size ≤ 200) (h2 : s2.size ≤ 200) : ∃ l0 l1 l2 cs f g, SomeF s0 s1 s2 l0 l1 l2 cs f g := by
  obtain ⟨l0, e0, n0, z0⟩ := split_ok s0 (by omega)
  obtain ⟨l1, e1, n1, z1⟩ := split_ok s1 (by omega)
  obtain ⟨l2, e2, n2, z2⟩ := split_ok s2 (by omega)
  have en := rnum_ok [l0, l1, l2] (by simp) (by simp only [texts]; omega)
  have q0 := numFile_len1 l0 []
  have q1 := numFile_len1 l1 (numFile [] l0).2
  have q2 := numFile_len1 l2 (numFile (numFile [] l0).2 l1).2
  obtain ⟨p1, b1, r1, m1, k1⟩ := some_ok (numFile [] l0).1 (numFile (numFile [] l0).2 l1).1 (by omega) (by omega)
  obtain ⟨p2, b2, r2, m2, k2⟩ := some_ok (numFile [] l0).1 (numFile (numFile (numFile [] l0).2 l1).2 l2).1 (by omega) (by omega)
  rw [q0, q1] at r1
  rw [q0, q2] at r2
  obtain ⟨⟨ee, he⟩, _⟩ := numFile_spec l1 (numFile [] l0).2
  obtain ⟨cs, hsw, hcl⟩ := sw_is (matD (-1) p1) (matD (-1) p2) l0.length l1.length l2.length (fun i => matD_lt (-1) (by omega) p1 _ _ i r1) (fun i => matD_lt (-1) (by omega) p2 _ _ i r2) (l0.length + l1.length + l2.length) 0 0 0 (by omega) ⟨by omega, by omega, by omega, by omega, by omega, by omega⟩
  have eo := rof_yes (l := p1) (r := p2) (base := l0.length) (left := l1.length) (right := l2.length) (by omega) (by omega) (by omega) (by omega) (by omega) ⟨⟨by omega, by omega, by omega⟩, r1, r2⟩ hsw (by omega)
  refine ⟨l0, l1, l2, cs, matD (-1) p1, matD (-1) p2, ?_, by omega, by omega, by omega, fun x hx => Nat.le_trans (z0 x hx) h0, fun x hx => Nat.le_trans (z1 x hx) h1, fun x hx => Nat.le_trans (z2 x hx) h2, hsw, by omega, ?_, ?_⟩
  · refine Ev.bind e0 (Ev.bind e1 (Ev.bind e2 (Ev.bind en ?_)))
    refine Ev.congr (fun k => if_pos rfl) (Ev.bind b1 (Ev.bind b2 (Ev.bind eo (Ev.now _))))
  · intro o ho
    obtain ⟨p, hp, e1, e2⟩ := matD_mem p1 o (by omega)
    obtain ⟨g1, g2, g3, g4⟩ := rise_mem p1 _ _ r1 p hp
    have := m1 p hp
    rw [← e2, ← e1]
    exact ⟨by omega, g2, g4, num_later l0 l1 [] (by omega) g2 (by omega) g4 (by rw [List.append_nil]; exact this)⟩
  · intro o ho
    obtain ⟨p, hp, e1, e2⟩ := matD_mem p2 o (by omega)
    obtain ⟨g1, g2, g3, g4⟩ := rise_mem p2 _ _ r2 p hp
    have := m2 p hp
    rw [he] at this
    rw [← e2, ← e1]
    exact ⟨by omega, g2, g4, num_later l0 l2 ee (by omega) g2 (by omega) g4 this⟩
end FavT
end Go.Proofs.Ytadafplbgophfaa.PA
end
section
namespace Go.Proofs.Ytadafplbgophfaa.PA
open Go.RowKit Go.Proofs.YtadafplbgophfaaW.PrintWords Go.Proofs.YtadafplbgophfaaW.PrintLast Go.Proofs.YtadafplbgophfaaW.PrintMore
attribute [local go_sem] max2_int min2_int max_two min_two max_three min_three max_four min_four   -- for this text's walks alone
set_option linter.unusedVariables false
set_option linter.unusedSimpArgs false
def J29_.l0 : Nat → List ByteArray → List ByteArray → Int → Option (Bool)
 | 0, _, _, _ => none
 | k + 1, x0, x1, x5 => if x5 < (x0.length : Int) then (if 0 ≤ x5 then (if x5 < (x1.length : Int) then (if (rdOf ByteArray.empty x0 x5).toList = (rdOf ByteArray.empty x1 x5).toList then (J29_.l0 k x0 x1 (wrap64 (x5 + 1))) else (some false)) else (none)) else (none)) else (some true)
def J29_.f (k : Nat) (l0 : List ByteArray) (l1 : List ByteArray) : Option (Bool) := if (l0.length : Int) = (l1.length : Int) then (J29_.l0 k l0 l1 0) else (some false)
set_option maxHeartbeats 8000000 in
set_option maxRecDepth 100000 in
theorem J29_.calls (k : Nat) (A0 : Option Addr) (c0 : Nat) (l0 : List ByteArray) (A1 : Option Addr) (c1 : Nat) (l1 : List ByteArray) (r : Bool) (w : World) (hr0 : Kd.C Kd.string w A0 l0.length l0) (hc0 : l0.length ≤ c0) (hr1 : Kd.C Kd.string w A1 l1.length l1) (hc1 : l1.length ≤ c1) (h : J29_.f k l0 l1 = some r) :
  Calls Try.prog 25 #[.slice A0 l0.length c0, .slice A1 l1.length c1] w fun e w' => e = .returned (.bool r) ∧ Drawn0 w w' := by
 have HR0 := Ja38_.mk hr0
 have HC0 := Ja38_.mk hc0
 clear hr0 hc0
 have HR1 := Ja38_.mk hr1
 have HC1 := Ja38_.mk hc1
 clear hr1 hc1
 have H : (if (l0.length : Int) = (l1.length : Int) then (J29_.l0 k l0 l1 0) else (some false)) = some r := h
 clear h
 by_cases c3 : (l0.length : Int) = (l1.length : Int)
 ·rw [if_pos c3] at H
  have c3b0 : ((l0.length : Int) == (l1.length : Int)) = true := beq_iff_eq.mpr c3
  have c3b1 : ((l0.length : Int) != (l1.length : Int)) = false := bne_eq_false_iff_eq.mpr c3
  have c3b2 : (l0.length == l1.length) = true := by first | simpa using c3 | (simp at c3 ⊢; omega)
  clear c3
  have H' := Ja38_.mk H
  clear H
  go_enter Try.func25, Try.ntmps25
  go_wp2
  repeat (go_quiet (fail); try go_wp2)
  go_loopg [5] k (fun kq v5 w' => ∃ (x5_1 : Int), v5 = .int .i64 x5_1 ∧ Ja38_ (J29_.l0 kq l0 l1 x5_1 = some r) ∧ Ja38_ (kq ≤ k) ∧ Drawn0 w w')
  case atStart => exact ⟨(0), (by first | rfl | (simp; done) | (simp [*]; done)), H', ⟨Nat.le_refl _⟩, by repeat (first | exact Drawn0.refl _ | apply Drawn0.step)⟩
  case round =>
   clear H'
   try clear c1
   try clear c2
   try clear p2
   try clear c3
   try clear c3b0
   try clear c3b1
   try clear c3b2
   obtain ⟨x5_1, rfl, HA, HK1, ⟨m1, rfl⟩⟩ := hrel
   cases gk with
   | zero => exact absurd HA.out (by simp [J29_.l0])
   | succ k1 =>
    have H := HA.out
    clear HA
    simp only [J29_.l0] at H
    by_cases c4 : x5_1 < (l0.length : Int)
    ·rw [if_pos c4] at H
     have c4b0 : decide (x5_1 < (l0.length : Int)) = true := decide_eq_true c4
     clear c4
     by_cases c5 : 0 ≤ x5_1
     ·rw [if_pos c5] at H
      have c5b0 : decide (0 ≤ x5_1) = true := decide_eq_true c5
      clear c5
      by_cases c6 : x5_1 < (l1.length : Int)
      ·rw [if_pos c6] at H
       have c6b0 : decide (x5_1 < (l1.length : Int)) = true := decide_eq_true c6
       clear c6
       by_cases c7 : (rdOf ByteArray.empty l0 x5_1).toList = (rdOf ByteArray.empty l1 x5_1).toList
       ·rw [if_pos c7] at H
        have c7b0 : ((rdOf ByteArray.empty l0 x5_1).toList == (rdOf ByteArray.empty l1 x5_1).toList) = true := beq_iff_eq.mpr c7
        have c7b1 : ((rdOf ByteArray.empty l0 x5_1).toList != (rdOf ByteArray.empty l1 x5_1).toList) = false := bne_eq_false_iff_eq.mpr c7
        clear c7
        have H' := Ja38_.mk H
        clear H
        have p101 : 0 ≤ (x5_1 : Int) := of_decide_eq_true (by first | (with_reducible assumption) | assumption)
        have q101 : x5_1 < (l0.length : Int) := of_decide_eq_true (by first | (with_reducible assumption) | assumption)
        obtain ⟨ad101, e101, hx101_0⟩ := Kd.at_string HR0.out x5_1 p101 q101
        cases e101
        replace p101 := eq_true p101
        replace q101 := eq_true q101
        have p102 : 0 ≤ (x5_1 : Int) := of_decide_eq_true (by first | (with_reducible assumption) | assumption)
        have q102 : x5_1 < (l1.length : Int) := of_decide_eq_true (by first | (with_reducible assumption) | assumption)
        obtain ⟨ad102, e102, hx102_0⟩ := Kd.at_string HR1.out x5_1 p102 q102
        cases e102
        replace p102 := eq_true p102
        replace q102 := eq_true q102
        go_wp2
        repeat (go_quiet (fail); try go_wp2)
        go_roundg k1
        case measure => have := HK1.out; omega
        case rel => exact ⟨(wrap64 (x5_1 + 1)), (by first | rfl | (simp; done) | (simp [*]; done)), H', ⟨by have := HK1.out; omega⟩, by repeat (first | exact Drawn0.refl _ | apply Drawn0.step)⟩
       ·rw [if_neg c7] at H
        have c7b0 : ((rdOf ByteArray.empty l0 x5_1).toList == (rdOf ByteArray.empty l1 x5_1).toList) = false := beq_eq_false_iff_ne.mpr c7
        have c7b1 : ((rdOf ByteArray.empty l0 x5_1).toList != (rdOf ByteArray.empty l1 x5_1).toList) = true := bne_iff_ne.mpr c7
        obtain rfl := Option.some.inj H
        have p101 : 0 ≤ (x5_1 : Int) := of_decide_eq_true (by first | (with_reducible assumption) | assumption)
        have q101 : x5_1 < (l0.length : Int) := of_decide_eq_true (by first | (with_reducible assumption) | assumption)
        obtain ⟨ad101, e101, hx101_0⟩ := Kd.at_string HR0.out x5_1 p101 q101
        cases e101
        replace p101 := eq_true p101
        replace q101 := eq_true q101
        have p102 : 0 ≤ (x5_1 : Int) := of_decide_eq_true (by first | (with_reducible assumption) | assumption)
        have q102 : x5_1 < (l1.length : Int) := of_decide_eq_true (by first | (with_reducible assumption) | assumption)
        obtain ⟨ad102, e102, hx102_0⟩ := Kd.at_string HR1.out x5_1 p102 q102
        cases e102
        replace p102 := eq_true p102
        replace q102 := eq_true q102
        go_wp2
        repeat (go_quiet (fail); try go_wp2)
        go_ret
        exact ⟨by first | rfl | (simp; done) | (simp [*]; done), by repeat (first | exact Drawn0.refl _ | apply Drawn0.step)⟩
      ·rw [if_neg c6] at H
       exact absurd H (by simp)
     ·rw [if_neg c5] at H
      exact absurd H (by simp)
    ·rw [if_neg c4] at H
     have c4b0 : decide (x5_1 < (l0.length : Int)) = false := decide_eq_false c4
     clear c4
     obtain rfl := Option.some.inj H
     go_wp2
     repeat (go_quiet (fail); try go_wp2)
     go_ret
     exact ⟨by first | rfl | (simp; done) | (simp [*]; done), by repeat (first | exact Drawn0.refl _ | apply Drawn0.step)⟩
 ·rw [if_neg c3] at H
  have c3b0 : ((l0.length : Int) == (l1.length : Int)) = false := beq_eq_false_iff_ne.mpr c3
  have c3b1 : ((l0.length : Int) != (l1.length : Int)) = true := bne_iff_ne.mpr c3
  have c3b2 : (l0.length == l1.length) = false := by first | simpa using c3 | (simp at c3 ⊢; omega)
  obtain rfl := Option.some.inj H
  go_enter Try.func25, Try.ntmps25
  go_wp2
  repeat (go_quiet (fail); try go_wp2)
  go_ret
  exact ⟨by first | rfl | (simp; done) | (simp [*]; done), by repeat (first | exact Drawn0.refl _ | apply Drawn0.step)⟩
end Go.Proofs.Ytadafplbgophfaa.PA
end
section
namespace Go.Proofs.Ytadafplbgophfaa.PA
set_option linter.unusedSimpArgs false
set_option linter.unusedVariables false
open Go.RowKit Go.Proofs.YtadafplbgophfaaW.PrintWords Go.Proofs.YtadafplbgophfaaW.PrintLast Go.Proofs.YtadafplbgophfaaW.PrintMore
def J34_.f (a b : Int) (l : List ByteArray) : List ByteArray := if a < 0 then [] else if b > (l.length : Int) then [] else if b < a then [] else (l.take b.toNat).drop a.toNat
set_option maxHeartbeats 8000000 in
set_option maxRecDepth 100000 in
theorem J34_.calls (a b : Int) (A1 : Option Addr) (c1 : Nat) (l1 : List ByteArray) (w : World) (hc1 : l1.length ≤ c1) :
    Calls Try.prog 122 #[.agg #[.int .i64 a, .int .i64 b], .slice A1 l1.length c1] w fun e w' => ∃ (A : Option Addr) (c : Nat), e = .returned (.slice A (J34_.f a b l1).length c) ∧ (∀ W : World, Kd.C Kd.string W A1 l1.length l1 → Kd.C Kd.string W A (J34_.f a b l1).length (J34_.f a b l1)) ∧ (J34_.f a b l1).length ≤ c ∧ Below w.heap.size w w' := by
  have hu79 := Try.underlying79
  have HC1 := Ja38_.mk hc1
  clear hc1
  have HB := Ja38_.mk (Below.refl w.heap.size w)
  unfold J34_.f
  have hnil : ∀ W : World, Kd.C Kd.string W none ([] : List ByteArray).length [] := fun W => Kd.C_nil _ _
  have HNIL := Ja38_.mk hnil
  clear hnil
  by_cases d1 : a < 0
  · rw [if_pos d1]
    have d1b : decide (a < 0) = true := decide_eq_true d1
    go_enter Try.func122, Try.ntmps122
    go_wp2_with ((with_reducible refine gate_dst (N := 2) rfl ?_); (try (refine gate_guard (by rfl) ?_; dsimp only)); refine box_event ?hg (N := 2) ?hd (cs := #[.int .i64 a, .int .i64 b]) (t := 79) ?hr ?_; (case hd => rfl); (case hg => rfl); (case hr => first | (go_simp; done) | (go_simp; rfl)); intro gb hg w2 hbox hb; have HB2 := Ja38_.mk hb; have GE := Ja38_.mk (Nat.le_of_eq hg.symm : w.heap.size ≤ gb); have y0 := (Ja39_ hbox 0).trans (show _ = some (Value.int .i64 a) from rfl); have y1 := (Ja39_ hbox 1).trans (show _ = some (Value.int .i64 b) from rfl); have x0 := Ja40_ hbox 0; have x1 := Ja40_ hbox 1; clear hg hb hbox)
    go_ret
    first | exact ⟨none, ⟨0, rfl⟩, fun W _ => HNIL.out W, HB2.out⟩ | exact ⟨none, 0, rfl, fun W _ => HNIL.out W, Nat.zero_le _, HB2.out⟩
  · rw [if_neg d1]
    have d1b : decide (a < 0) = false := decide_eq_false d1
    by_cases d2 : b > (l1.length : Int)
    · rw [if_pos d2]
      have d2b : decide ((l1.length : Int) < b) = true := decide_eq_true d2
      go_enter Try.func122, Try.ntmps122
      go_wp2_with ((with_reducible refine gate_dst (N := 2) rfl ?_); (try (refine gate_guard (by rfl) ?_; dsimp only)); refine box_event ?hg (N := 2) ?hd (cs := #[.int .i64 a, .int .i64 b]) (t := 79) ?hr ?_; (case hd => rfl); (case hg => rfl); (case hr => first | (go_simp; done) | (go_simp; rfl)); intro gb hg w2 hbox hb; have HB2 := Ja38_.mk hb; have GE := Ja38_.mk (Nat.le_of_eq hg.symm : w.heap.size ≤ gb); have y0 := (Ja39_ hbox 0).trans (show _ = some (Value.int .i64 a) from rfl); have y1 := (Ja39_ hbox 1).trans (show _ = some (Value.int .i64 b) from rfl); have x0 := Ja40_ hbox 0; have x1 := Ja40_ hbox 1; clear hg hb hbox)
      go_ret
      first | exact ⟨none, ⟨0, rfl⟩, fun W _ => HNIL.out W, HB2.out⟩ | exact ⟨none, 0, rfl, fun W _ => HNIL.out W, Nat.zero_le _, HB2.out⟩
    · rw [if_neg d2]
      have d2b : decide ((l1.length : Int) < b) = false := decide_eq_false d2
      by_cases d3 : b < a
      · rw [if_pos d3]
        have d3b : decide (b < a) = true := decide_eq_true d3
        go_enter Try.func122, Try.ntmps122
        go_wp2_with ((with_reducible refine gate_dst (N := 2) rfl ?_); (try (refine gate_guard (by rfl) ?_; dsimp only)); refine box_event ?hg (N := 2) ?hd (cs := #[.int .i64 a, .int .i64 b]) (t := 79) ?hr ?_; (case hd => rfl); (case hg => rfl); (case hr => first | (go_simp; done) | (go_simp; rfl)); intro gb hg w2 hbox hb; have HB2 := Ja38_.mk hb; have GE := Ja38_.mk (Nat.le_of_eq hg.symm : w.heap.size ≤ gb); have y0 := (Ja39_ hbox 0).trans (show _ = some (Value.int .i64 a) from rfl); have y1 := (Ja39_ hbox 1).trans (show _ = some (Value.int .i64 b) from rfl); have x0 := Ja40_ hbox 0; have x1 := Ja40_ hbox 1; clear hg hb hbox)
        go_ret
        first | exact ⟨none, ⟨0, rfl⟩, fun W _ => HNIL.out W, HB2.out⟩ | exact ⟨none, 0, rfl, fun W _ => HNIL.out W, Nat.zero_le _, HB2.out⟩
      · rw [if_neg d3]
        have d3b : decide (b < a) = false := decide_eq_false d3
        obtain ⟨i0, hi0, _, hsz0, _⟩ := info_parts info9
        obtain ⟨A', c', hrun, hC, hle⟩ := cut_lh (P := Try.prog) Kd.string 27 9 Try.underlying27 hi0 hsz0 A1 c1 l1 a b (by omega) (by omega) (by omega) HC1.out
        have HCC := Ja38_.mk (And.intro hC hle)
        clear hC hle d1 d2 d3
        go_enter Try.func122, Try.ntmps122
        go_wp2_with ((with_reducible refine gate_dst (N := 2) rfl ?_); (try (refine gate_guard (by rfl) ?_; dsimp only)); refine box_event ?hg (N := 2) ?hd (cs := #[.int .i64 a, .int .i64 b]) (t := 79) ?hr ?_; (case hd => rfl); (case hg => rfl); (case hr => first | (go_simp; done) | (go_simp; rfl)); intro gb hg w2 hbox hb; have HB2 := Ja38_.mk hb; have GE := Ja38_.mk (Nat.le_of_eq hg.symm : w.heap.size ≤ gb); have y0 := (Ja39_ hbox 0).trans (show _ = some (Value.int .i64 a) from rfl); have y1 := (Ja39_ hbox 1).trans (show _ = some (Value.int .i64 b) from rfl); have x0 := Ja40_ hbox 0; have x1 := Ja40_ hbox 1; clear hg hb hbox)
        go_ret
        exact ⟨A', c', by simp [List.length_drop, List.length_take], HCC.out.1, HCC.out.2, HB2.out⟩
end Go.Proofs.Ytadafplbgophfaa.PA
end
section
namespace Go.Proofs.Ytadafplbgophfaa.PA
set_option linter.unusedSimpArgs false
set_option linter.unusedVariables false
open Go.RowKit Go.Proofs.YtadafplbgophfaaW.PrintWords Go.Proofs.YtadafplbgophfaaW.PrintLast Go.Proofs.YtadafplbgophfaaW.PrintMore
def J33_.g (k : Nat) (st : Bool) (x y z : List ByteArray) : Option Int :=
  if st = true then some 0 else (J29_.f k x y).bind fun t => if t = true then some 2 else (J29_.f k x z).bind fun t => if t = true then some 1 else (J29_.f k y z).bind fun t => if t = true then some 3 else some 4
def J33_.f (k : Nat) (c0 : Bool) (c1 c2 c3 c4 c5 c6 : Int) (b l r : List ByteArray) : Option Int :=
  J33_.g k c0 (J34_.f c1 c2 b) (J34_.f c3 c4 l) (J34_.f c5 c6 r)
def J33_.T1 : Bool × List (List Nat × List Nat) := (true, [([], []), ([0], [0]), ([], []), ([1, 2], [1, 2]), ([], []), ([4], [4]), ([], []), ([5, 6, 3], [5, 6]), ([], []), ([8], [8]), ([], []), ([9, 10, 7], [9, 10]), ([3, 11, 0, 1, 2, 3], [3]), ([7, 12, 0, 1, 2, 3, 4, 5, 6, 7, 12], [7]), ([11, 13, 0, 1, 2, 3, 4, 5, 6, 7, 8, 9, 10, 11, 12, 13], [11])])
def J33_.B1 : List Nat := [0, 1, 0, 7, 0, 16, 0, 127, 0, 256, 0, 2047, 4095, 8191, 16383]
theorem J33_.tab1 : rtab .any (opsOf Try.f77 1) = J33_.T1 := by kernel_rfl
theorem J33_.bits1 : waitsOk J33_.T1.2 J33_.B1 = true := by kernel_rfl
set_option maxHeartbeats 8000000 in
set_option maxRecDepth 100000 in
theorem J33_.calls (k : Nat) (a0 : Bool) (a1 a2 a3 a4 a5 a6 : Int) (A1 : Option Addr) (c1 : Nat) (l1 : List ByteArray) (A2 : Option Addr) (c2 : Nat) (l2 : List ByteArray) (A3 : Option Addr) (c3 : Nat) (l3 : List ByteArray) (r : Int) (w : World) (hr1 : Kd.C Kd.string w A1 l1.length l1) (hc1 : l1.length ≤ c1) (hr2 : Kd.C Kd.string w A2 l2.length l2) (hc2 : l2.length ≤ c2) (hr3 : Kd.C Kd.string w A3 l3.length l3) (hc3 : l3.length ≤ c3) (h : J33_.f k a0 a1 a2 a3 a4 a5 a6 l1 l2 l3 = some r) :
    Calls Try.prog 77 #[.agg #[.bool a0, .int .i64 a1, .int .i64 a2, .int .i64 a3, .int .i64 a4, .int .i64 a5, .int .i64 a6], .slice A1 l1.length c1, .slice A2 l2.length c2, .slice A3 l3.length c3] w fun e w' => e = .returned (.int .i64 r) ∧ Below w.heap.size w w' := by
  have hu81 := Try.underlying81
  have hu79 := Try.underlying79
  have K1 := Ja38_.mk hr1
  have K2 := Ja38_.mk hr2
  have K3 := Ja38_.mk hr3
  have HC1 := Ja38_.mk hc1
  have HC2 := Ja38_.mk hc2
  have HC3 := Ja38_.mk hc3
  clear hr1 hc1 hr2 hc2 hr3 hc3
  unfold J33_.f at h
  have X1 := Ja38_.mk (J34_.calls a1 a2 A1 c1 l1 (hc1 := HC1.out))
  have X2 := Ja38_.mk (J34_.calls a3 a4 A2 c2 l2 (hc1 := HC2.out))
  have X3 := Ja38_.mk (J34_.calls a5 a6 A3 c3 l3 (hc1 := HC3.out))
  generalize J34_.f a1 a2 l1 = x at X1 h
  generalize J34_.f a3 a4 l2 = y at X2 h
  generalize J34_.f a5 a6 l3 = z at X3 h
  have H := Ja38_.mk h
  clear h
  go_enter Try.func77, Try.ntmps77
  go_wp2_with ((with_reducible refine gate_dst (N := 4) rfl ?_); refine box_event ?hg (N := 4) ?hd (cs := #[.bool a0, .int .i64 a1, .int .i64 a2, .int .i64 a3, .int .i64 a4, .int .i64 a5, .int .i64 a6]) (t := 81) ?hr ?_; (case hd => rfl); (case hg => rfl); (case hr => first | (go_simp; done) | (go_simp; rfl)); intro gb hg w1 hbox hb; have BK := Ja38_.mk hbox; have HB := Ja38_.mk hb; replace K1 := Ja38_.mk (Kd.C_below K1.out hb); replace K2 := Ja38_.mk (Kd.C_below K2.out hb); replace K3 := Ja38_.mk (Kd.C_below K3.out hb); clear hg hbox hb)
  refine start_ (n := 15) (S := fun w' => w'.cell? ⟨gb, 0, none⟩ = some (.bool a0) ∧ w'.cell? ⟨gb, 1, none⟩ = some (.int .i64 a1) ∧ w'.cell? ⟨gb, 2, none⟩ = some (.int .i64 a2) ∧ w'.cell? ⟨gb, 3, none⟩ = some (.int .i64 a3) ∧ w'.cell? ⟨gb, 4, none⟩ = some (.int .i64 a4) ∧ w'.cell? ⟨gb, 5, none⟩ = some (.int .i64 a5) ∧ w'.cell? ⟨gb, 6, none⟩ = some (.int .i64 a6)) (ds := []) (bz_ 15 0) (by kernel_rfl) rfl rfl ⟨(Ja39_ BK.out 0).trans rfl, (Ja39_ BK.out 1).trans rfl, (Ja39_ BK.out 2).trans rfl, (Ja39_ BK.out 3).trans rfl, (Ja39_ BK.out 4).trans rfl, (Ja39_ BK.out 5).trans rfl, (Ja39_ BK.out 6).trans rfl⟩ (fun hHeld => ?_); refine with_tabW J33_.tab1 J33_.bits1 (fun HT_ HW_ => ?_)
  replace K1 := Ja38_.mk (Kd.C_drew K1.out)
  replace K2 := Ja38_.mk (Kd.C_drew K2.out)
  replace K3 := Ja38_.mk (Kd.C_drew K3.out)
  replace BK := Ja38_.mk (Ja49_ BK.out)
  replace HB := Ja38_.mk (Ja42_ HB.out)
  generalize w1.drew = wd at K1 K2 K3 BK HB hHeld ⊢
  refine pure_ (i := 0) (N := some 12) (v := ?_) (a' := ?_) (bz_ 15 1) rfl rfl (any_of HT_.out (by kernel_rfl)) (fun _ _ _ h => h) (Or.inl ⟨by rfl, ?_⟩) ?_ ?_
  rotate_left
  · intro w'
    go_simp
    with_reducible rfl
  rotate_left
  · simp only [Act.put, sA_, sB_, sC_, i64_w, i32_w]
    rfl
  refine pure_ (i := 2) (N := some 14) (v := ?_) (a' := ?_) (bz_ 15 5) rfl rfl (any_of HT_.out (by kernel_rfl)) (fun _ _ _ h => h) (Or.inl ⟨by rfl, ?_⟩) ?_ ?_
  rotate_left
  · intro w'
    go_simp
    with_reducible rfl
  rotate_left
  · simp only [Act.put, sA_, sB_, sC_, i64_w, i32_w]
    rfl
  refine pure_ (i := 4) (N := some 16) (v := ?_) (a' := ?_) (bz_ 15 21) rfl rfl (any_of HT_.out (by kernel_rfl)) (fun _ _ _ h => h) (Or.inl ⟨by rfl, ?_⟩) ?_ ?_
  rotate_left
  · intro w'
    go_simp
    with_reducible rfl
  rotate_left
  · simp only [Act.put, sA_, sB_, sC_, i64_w, i32_w]
    rfl
  refine pure_ (i := 6) (N := some 18) (v := ?_) (a' := ?_) (bz_ 15 85) rfl rfl (any_of HT_.out (by kernel_rfl)) (fun _ _ _ h => h) (Or.inl ⟨by rfl, ?_⟩) ?_ ?_
  rotate_left
  · intro w'
    go_simp
    with_reducible rfl
  rotate_left
  · simp only [Act.put, sA_, sB_, sC_, i64_w, i32_w]
    rfl
  refine pure_ (i := 8) (N := some 20) (v := ?_) (a' := ?_) (bz_ 15 341) rfl rfl (any_of HT_.out (by kernel_rfl)) (fun _ _ _ h => h) (Or.inl ⟨by rfl, ?_⟩) ?_ ?_
  rotate_left
  · intro w'
    go_simp
    with_reducible rfl
  rotate_left
  · simp only [Act.put, sA_, sB_, sC_, i64_w, i32_w]
    rfl
  refine pure_ (i := 10) (N := some 22) (v := ?_) (a' := ?_) (bz_ 15 1365) rfl rfl (any_of HT_.out (by kernel_rfl)) (fun _ _ _ h => h) (Or.inl ⟨by rfl, ?_⟩) ?_ ?_
  rotate_left
  · intro w'
    go_simp
    with_reducible rfl
  rotate_left
  · simp only [Act.put, sA_, sB_, sC_, i64_w, i32_w]
    rfl
  refine take_ (i := 1) (N := some 13) (v := ?_) (a' := ?_) (bz_ 15 1367) rfl rfl (Ja52_ HT_.out HW_.out (by kernel_rfl)) (fun _ _ _ h => h) (Or.inl ⟨by rfl, ?_⟩) hHeld ?_ ?_
  rotate_left
  · rintro w' ⟨s0, s1, s2, s3, s4, s5, s6⟩
    go_simp
    with_reducible rfl
  rotate_left
  · simp only [Act.put, sA_, sB_, sC_, i64_w, i32_w]
    rfl
  refine take_ (i := 5) (N := some 17) (v := ?_) (a' := ?_) (bz_ 15 1399) rfl rfl (Ja52_ HT_.out HW_.out (by kernel_rfl)) (fun _ _ _ h => h) (Or.inl ⟨by rfl, ?_⟩) hHeld ?_ ?_
  rotate_left
  · rintro w' ⟨s0, s1, s2, s3, s4, s5, s6⟩
    go_simp
    with_reducible rfl
  rotate_left
  · simp only [Act.put, sA_, sB_, sC_, i64_w, i32_w]
    rfl
  refine take_ (i := 9) (N := some 21) (v := ?_) (a' := ?_) (bz_ 15 1911) rfl rfl (Ja52_ HT_.out HW_.out (by kernel_rfl)) (fun _ _ _ h => h) (Or.inl ⟨by rfl, ?_⟩) hHeld ?_ ?_
  rotate_left
  · rintro w' ⟨s0, s1, s2, s3, s4, s5, s6⟩
    go_simp
    with_reducible rfl
  rotate_left
  · simp only [Act.put, sA_, sB_, sC_, i64_w, i32_w]
    rfl
  refine one_ (i := 3) (N := some 15) (bz_ 15 1919) rfl rfl (one_of HT_.out (by kernel_rfl)) (by decide) (fun K hK => ?_)
  refine goes_ Try.func122 (by kernel_rfl) rfl #[.agg #[.int .i64 a1, .int .i64 a2], .slice A1 l1.length c1] (by rfl) rfl rfl (by (try simp only [List.map_toArray, List.map_cons, List.map_nil]); first | done | rfl) ?_
  refine (X1.out _).mono ?_
  rintro e w2 ⟨B1, d1, rfl, hC, hd, hb⟩
  have E1 := Ja38_.mk (hC _ (Kd.C_below K1.out hb))
  have D1 := Ja38_.mk hd
  replace K1 := Ja38_.mk (Kd.C_below K1.out hb)
  replace K2 := Ja38_.mk (Kd.C_below K2.out hb)
  replace K3 := Ja38_.mk (Kd.C_below K3.out hb)
  replace BK := Ja38_.mk (Ja47_ BK.out hb)
  replace HB := Ja38_.mk (Ja44_ HB.out hb)
  refine ⟨_, rfl, ?_⟩
  clear hC hd hb hHeld
  refine hK.out _ _ ⟨(Ja39_ BK.out 0).trans rfl, (Ja39_ BK.out 1).trans rfl, (Ja39_ BK.out 2).trans rfl, (Ja39_ BK.out 3).trans rfl, (Ja39_ BK.out 4).trans rfl, (Ja39_ BK.out 5).trans rfl, (Ja39_ BK.out 6).trans rfl⟩ (fun hHeld => ?_)
  clear hK K
  refine norm_ (a' := ?_) ?_ ?_
  rotate_left
  · show Act.put _ (some 15) _ = _
    simp only [Act.put, sA_, sB_, sC_, i64_w, i32_w]
    rfl
  refine one_ (i := 7) (N := some 19) (bz_ 15 2047) rfl rfl (one_of HT_.out (by kernel_rfl)) (by decide) (fun K hK => ?_)
  refine goes_ Try.func122 (by kernel_rfl) rfl #[.agg #[.int .i64 a3, .int .i64 a4], .slice A2 l2.length c2] (by rfl) rfl rfl (by (try simp only [List.map_toArray, List.map_cons, List.map_nil]); first | done | rfl) ?_
  refine (X2.out _).mono ?_
  rintro e w3 ⟨B2, d2, rfl, hC, hd, hb⟩
  have E2 := Ja38_.mk (hC _ (Kd.C_below K2.out hb))
  have D2 := Ja38_.mk hd
  replace K1 := Ja38_.mk (Kd.C_below K1.out hb)
  replace K2 := Ja38_.mk (Kd.C_below K2.out hb)
  replace K3 := Ja38_.mk (Kd.C_below K3.out hb)
  replace E1 := Ja38_.mk (Kd.C_below E1.out hb)
  replace BK := Ja38_.mk (Ja47_ BK.out hb)
  replace HB := Ja38_.mk (Ja44_ HB.out hb)
  refine ⟨_, rfl, ?_⟩
  clear hC hd hb hHeld
  refine hK.out _ _ ⟨(Ja39_ BK.out 0).trans rfl, (Ja39_ BK.out 1).trans rfl, (Ja39_ BK.out 2).trans rfl, (Ja39_ BK.out 3).trans rfl, (Ja39_ BK.out 4).trans rfl, (Ja39_ BK.out 5).trans rfl, (Ja39_ BK.out 6).trans rfl⟩ (fun hHeld => ?_)
  clear hK K
  refine norm_ (a' := ?_) ?_ ?_
  rotate_left
  · show Act.put _ (some 19) _ = _
    simp only [Act.put, sA_, sB_, sC_, i64_w, i32_w]
    rfl
  refine one_ (i := 11) (N := some 23) (bz_ 15 4095) rfl rfl (one_of HT_.out (by kernel_rfl)) (by decide) (fun K hK => ?_)
  refine goes_ Try.func122 (by kernel_rfl) rfl #[.agg #[.int .i64 a5, .int .i64 a6], .slice A3 l3.length c3] (by rfl) rfl rfl (by (try simp only [List.map_toArray, List.map_cons, List.map_nil]); first | done | rfl) ?_
  refine (X3.out _).mono ?_
  rintro e w4 ⟨B3, d3, rfl, hC, hd, hb⟩
  have E3 := Ja38_.mk (hC _ (Kd.C_below K3.out hb))
  have D3 := Ja38_.mk hd
  replace K1 := Ja38_.mk (Kd.C_below K1.out hb)
  replace K2 := Ja38_.mk (Kd.C_below K2.out hb)
  replace K3 := Ja38_.mk (Kd.C_below K3.out hb)
  replace E1 := Ja38_.mk (Kd.C_below E1.out hb)
  replace E2 := Ja38_.mk (Kd.C_below E2.out hb)
  replace BK := Ja38_.mk (Ja47_ BK.out hb)
  replace HB := Ja38_.mk (Ja44_ HB.out hb)
  refine ⟨_, rfl, ?_⟩
  clear hC hd hb hHeld
  refine hK.out _ _ ⟨(Ja39_ BK.out 0).trans rfl, (Ja39_ BK.out 1).trans rfl, (Ja39_ BK.out 2).trans rfl, (Ja39_ BK.out 3).trans rfl, (Ja39_ BK.out 4).trans rfl, (Ja39_ BK.out 5).trans rfl, (Ja39_ BK.out 6).trans rfl⟩ (fun hHeld => ?_)
  clear hK K
  refine norm_ (a' := ?_) ?_ ?_
  rotate_left
  · show Act.put _ (some 23) _ = _
    simp only [Act.put, sA_, sB_, sC_, i64_w, i32_w]
    rfl
  refine pure_ (i := 12) (N := some 9) (v := ?_) (a' := ?_) (bz_ 15 8191) rfl rfl (any_of HT_.out (by kernel_rfl)) (fun _ _ _ h => h) (Or.inl ⟨by rfl, ?_⟩) ?_ ?_
  rotate_left
  · intro w'
    go_simp
    with_reducible rfl
  rotate_left
  · simp only [Act.put, sA_, sB_, sC_, i64_w, i32_w]
    rfl
  refine pure_ (i := 13) (N := some 10) (v := ?_) (a' := ?_) (bz_ 15 16383) rfl rfl (any_of HT_.out (by kernel_rfl)) (fun _ _ _ h => h) (Or.inl ⟨by rfl, ?_⟩) ?_ ?_
  rotate_left
  · intro w'
    go_simp
    with_reducible rfl
  rotate_left
  · simp only [Act.put, sA_, sB_, sC_, i64_w, i32_w]
    rfl
  refine pure_ (i := 14) (N := some 11) (v := ?_) (a' := ?_) (bz_ 15 32767) rfl rfl (any_of HT_.out (by kernel_rfl)) (fun _ _ _ h => h) (Or.inl ⟨by rfl, ?_⟩) ?_ ?_
  rotate_left
  · intro w'
    go_simp
    with_reducible rfl
  rotate_left
  · simp only [Act.put, sA_, sB_, sC_, i64_w, i32_w]
    rfl
  refine done_ (done_of HT_.out (by kernel_rfl)) ?_
  clear hHeld K1 K2 K3 X1 X2 X3
  have z0 : w4.cell? ⟨gb, 0, none⟩ = some (.bool a0) := (Ja39_ BK.out 0).trans rfl
  have hh := H.out
  unfold J33_.g at hh
  clear H
  cases a0 with
  | true =>
    rw [if_pos rfl] at hh
    obtain rfl := Option.some.inj hh
    go_wp2_with fail
    go_ret
    exact ⟨by first | rfl | (simp; done), HB.out⟩
  | false =>
    rw [if_neg (by decide)] at hh
    replace hh := Option.bind_eq_some_iff.1 hh
    obtain ⟨t, ht, hh⟩ := hh
    have G := Ja38_.mk ht
    have HH := Ja38_.mk hh
    clear ht hh
    go_wp2_with fail
    refine (J29_.calls k B1 d1 x B2 d2 y _ _ E1.out D1.out E2.out D2.out G.out).mono ?_
    rintro e w5 ⟨rfl, hD⟩
    have hb := Drawn0.below hD
    replace HB := Ja38_.mk (Ja44_ HB.out hb)
    replace E1 := Ja38_.mk (Kd.C_below E1.out hb)
    replace E2 := Ja38_.mk (Kd.C_below E2.out hb)
    replace E3 := Ja38_.mk (Kd.C_below E3.out hb)
    clear hb hD G
    have hh := HH.out
    clear HH
    cases t with
    | true =>
      rw [if_pos rfl] at hh
      obtain rfl := Option.some.inj hh
      go_wp2_with fail
      go_ret
      exact ⟨by first | rfl | (simp; done), HB.out⟩
    | false =>
      rw [if_neg (by decide)] at hh
      replace hh := Option.bind_eq_some_iff.1 hh
      obtain ⟨t, ht, hh⟩ := hh
      have G := Ja38_.mk ht
      have HH := Ja38_.mk hh
      clear ht hh
      go_wp2_with fail
      refine (J29_.calls k B1 d1 x B3 d3 z _ _ E1.out D1.out E3.out D3.out G.out).mono ?_
      rintro e w6 ⟨rfl, hD⟩
      have hb := Drawn0.below hD
      replace HB := Ja38_.mk (Ja44_ HB.out hb)
      replace E1 := Ja38_.mk (Kd.C_below E1.out hb)
      replace E2 := Ja38_.mk (Kd.C_below E2.out hb)
      replace E3 := Ja38_.mk (Kd.C_below E3.out hb)
      clear hb hD G
      have hh := HH.out
      clear HH
      cases t with
      | true =>
        rw [if_pos rfl] at hh
        obtain rfl := Option.some.inj hh
        go_wp2_with fail
        go_ret
        exact ⟨by first | rfl | (simp; done), HB.out⟩
      | false =>
        rw [if_neg (by decide)] at hh
        replace hh := Option.bind_eq_some_iff.1 hh
        obtain ⟨t, ht, hh⟩ := hh
        have G := Ja38_.mk ht
        have HH := Ja38_.mk hh
        clear ht hh
        go_wp2_with fail
        refine (J29_.calls k B2 d2 y B3 d3 z _ _ E2.out D2.out E3.out D3.out G.out).mono ?_
        rintro e w7 ⟨rfl, hD⟩
        have hb := Drawn0.below hD
        replace HB := Ja38_.mk (Ja44_ HB.out hb)
        replace E1 := Ja38_.mk (Kd.C_below E1.out hb)
        replace E2 := Ja38_.mk (Kd.C_below E2.out hb)
        replace E3 := Ja38_.mk (Kd.C_below E3.out hb)
        clear hb hD G
        have hh := HH.out
        clear HH
        cases t with
        | true =>
          rw [if_pos rfl] at hh
          obtain rfl := Option.some.inj hh
          go_wp2_with fail
          go_ret
          exact ⟨by first | rfl | (simp; done), HB.out⟩
        | false =>
          rw [if_neg (by decide)] at hh
          obtain rfl := Option.some.inj hh
          go_wp2_with fail
          go_ret
          exact ⟨by first | rfl | (simp; done), HB.out⟩
end Go.Proofs.Ytadafplbgophfaa.PA
end
section
namespace Go.Proofs.Ytadafplbgophfaa.PA
open Go.RowKit Go.Proofs.YtadafplbgophfaaW.PrintWords Go.Proofs.YtadafplbgophfaaW.PrintLast Go.Proofs.YtadafplbgophfaaW.PrintMore
attribute [local go_sem] max2_int min2_int max_two min_two max_three min_three max_four min_four   -- for this text's walks alone
set_option linter.unusedVariables false
set_option linter.unusedSimpArgs false
mutual
def J17_.j1 : Nat → List ByteArray → List ByteArray → Int → Option (Int × Int)
 | 0, _, _, _ => none
 | k + 1, x0, x1, x6 => if 0 ≤ x6 then (if x6 ≤ (x0.length : Int) then (if x6 ≤ (x1.length : Int) then (J17_.l1 k (x0.drop (x6 : Int).toNat) (x1.drop (x6 : Int).toNat) x6 0) else (none)) else (none)) else (none)
def J17_.l1 : Nat → List ByteArray → List ByteArray → Int → Int → Option (Int × Int)
 | 0, _, _, _, _ => none
 | k + 1, x0, x1, x6, x7 => if x7 < (mn (x0.length : Int) (x1.length : Int)) then (if 0 ≤ (wrap64 ((wrap64 ((x0.length : Int) - 1)) - x7)) then (if (wrap64 ((wrap64 ((x0.length : Int) - 1)) - x7)) < (x0.length : Int) then (if 0 ≤ (wrap64 ((wrap64 ((x1.length : Int) - 1)) - x7)) then (if (wrap64 ((wrap64 ((x1.length : Int) - 1)) - x7)) < (x1.length : Int) then (if (rdOf ByteArray.empty x0 (wrap64 ((wrap64 ((x0.length : Int) - 1)) - x7))).toList = (rdOf ByteArray.empty x1 (wrap64 ((wrap64 ((x1.length : Int) - 1)) - x7))).toList then (J17_.l1 k x0 x1 x6 (wrap64 (x7 + 1))) else (some (x6, x7))) else (none)) else (none)) else (none)) else (none)) else (some (x6, x7))
def J17_.l0 : Nat → List ByteArray → List ByteArray → Int → Option (Int × Int)
 | 0, _, _, _ => none
 | k + 1, x0, x1, x6 => if x6 < (mn (x0.length : Int) (x1.length : Int)) then (if 0 ≤ x6 then (if x6 < (x0.length : Int) then (if x6 < (x1.length : Int) then (if (rdOf ByteArray.empty x0 x6).toList = (rdOf ByteArray.empty x1 x6).toList then (J17_.l0 k x0 x1 (wrap64 (x6 + 1))) else (J17_.j1 k x0 x1 x6)) else (none)) else (none)) else (none)) else (J17_.j1 k x0 x1 x6)
end
def J17_.f (k : Nat) (l0 : List ByteArray) (l1 : List ByteArray) : Option (Int × Int) := J17_.l0 k l0 l1 0
theorem J17_.mono_l : ∀ k, (∀ y0 y1 y2, LeO (J17_.j1 k y0 y1 y2) (J17_.j1 (k + 1) y0 y1 y2)) ∧ (∀ y0 y1 y2 y3, LeO (J17_.l1 k y0 y1 y2 y3) (J17_.l1 (k + 1) y0 y1 y2 y3)) ∧ (∀ y0 y1 y2, LeO (J17_.l0 k y0 y1 y2) (J17_.l0 (k + 1) y0 y1 y2))
 | 0 => ⟨fun _ _ _ r h => by simp [J17_.j1] at h, fun _ _ _ _ r h => by simp [J17_.l1] at h, fun _ _ _ r h => by simp [J17_.l0] at h⟩
 | k + 1 => by
  obtain ⟨ih0, ih1, ih2⟩ := J17_.mono_l k
  refine ⟨?_, ?_, ?_⟩
  ·intro y0 y1 y2
   unfold J17_.j1
   repeat' first
   | (with_reducible exact ih0 _ _ _)
   | (with_reducible exact ih1 _ _ _ _)
   | (with_reducible exact ih2 _ _ _)
   | (with_reducible exact LeO.refl _)
   | (with_reducible exact LeO.none _)
   | (with_reducible refine LeO.ite ?_ ?_)
   | (with_reducible refine LeO.bind ?_ (fun _ => ?_))
   | exact ih0 _ _ _
   | exact ih1 _ _ _ _
   | exact ih2 _ _ _
   | exact LeO.none _
   | refine LeO.ite ?_ ?_
   | refine LeO.bind ?_ (fun _ => ?_)
  ·intro y0 y1 y2 y3
   unfold J17_.l1
   repeat' first
   | (with_reducible exact ih0 _ _ _)
   | (with_reducible exact ih1 _ _ _ _)
   | (with_reducible exact ih2 _ _ _)
   | (with_reducible exact LeO.refl _)
   | (with_reducible exact LeO.none _)
   | (with_reducible refine LeO.ite ?_ ?_)
   | (with_reducible refine LeO.bind ?_ (fun _ => ?_))
   | exact ih0 _ _ _
   | exact ih1 _ _ _ _
   | exact ih2 _ _ _
   | exact LeO.none _
   | refine LeO.ite ?_ ?_
   | refine LeO.bind ?_ (fun _ => ?_)
  ·intro y0 y1 y2
   unfold J17_.l0
   repeat' first
   | (with_reducible exact ih0 _ _ _)
   | (with_reducible exact ih1 _ _ _ _)
   | (with_reducible exact ih2 _ _ _)
   | (with_reducible exact LeO.refl _)
   | (with_reducible exact LeO.none _)
   | (with_reducible refine LeO.ite ?_ ?_)
   | (with_reducible refine LeO.bind ?_ (fun _ => ?_))
   | exact ih0 _ _ _
   | exact ih1 _ _ _ _
   | exact ih2 _ _ _
   | exact LeO.none _
   | refine LeO.ite ?_ ?_
   | refine LeO.bind ?_ (fun _ => ?_)
theorem J17_.mono : ∀ a0 a1 k, LeO (J17_.f k a0 a1) (J17_.f (k + 1) a0 a1) := by
 intro a0 a1 k
 obtain ⟨ih0, ih1, ih2⟩ := J17_.mono_l k
 unfold J17_.f
 repeat' first
   | (with_reducible exact ih0 _ _ _)
   | (with_reducible exact ih1 _ _ _ _)
   | (with_reducible exact ih2 _ _ _)
   | (with_reducible exact LeO.refl _)
   | (with_reducible exact LeO.none _)
   | (with_reducible refine LeO.ite ?_ ?_)
   | (with_reducible refine LeO.bind ?_ (fun _ => ?_))
   | exact ih0 _ _ _
   | exact ih1 _ _ _ _
   | exact ih2 _ _ _
   | exact LeO.none _
   | refine LeO.ite ?_ ?_
   | refine LeO.bind ?_ (fun _ => ?_)
set_option maxHeartbeats 8000000 in
set_option maxRecDepth 100000 in
theorem J17_.calls (k : Nat) (A0 : Option Addr) (c0 : Nat) (l0 : List ByteArray) (A1 : Option Addr) (c1 : Nat) (l1 : List ByteArray) (r1 : Int) (r2 : Int) (w : World) (hr0 : Kd.C Kd.string w A0 l0.length l0) (hc0 : l0.length ≤ c0) (hr1 : Kd.C Kd.string w A1 l1.length l1) (hc1 : l1.length ≤ c1) (h : J17_.f k l0 l1 = some (r1, r2)) :
  Calls Try.prog 22 #[.slice A0 l0.length c0, .slice A1 l1.length c1] w fun e w' => e = .returned (.tuple #[.int .i64 r1, .int .i64 r2]) ∧ Drawn0 w w' := by
 have HR0 := Ja38_.mk hr0
 have HC0 := Ja38_.mk hc0
 clear hr0 hc0
 have HR1 := Ja38_.mk hr1
 have HC1 := Ja38_.mk hc1
 clear hr1 hc1
 have H : (J17_.l0 k l0 l1 0) = some (r1, r2) := h
 clear h
 have HC3 := Ja38_.mk H
 clear H
 go_enter Try.func22, Try.ntmps22
 go_upto_block 0 with (fail)
 repeat (go_quiet (fail); go_upto_block 0 with (fail))
 go_cut [6] (fun v6 wc => ∃ (kq : Nat) (x6_2 : Int), v6 = .int .i64 x6_2 ∧ Ja38_ (J17_.j1 kq l0 l1 x6_2 = some (r1, r2)) ∧ Ja38_ (kq ≤ k) ∧ Drawn0 w wc)
 case first =>
  have H := HC3.out
  clear HC3
  have H' := Ja38_.mk H
  clear H
  go_wp2
  repeat (go_quiet (fail); try go_wp2)
  go_loopg [6] k (fun kq v6 w' => ∃ (x6_1 : Int), v6 = .int .i64 x6_1 ∧ Ja38_ (J17_.l0 kq l0 l1 x6_1 = some (r1, r2)) ∧ Ja38_ (kq ≤ k) ∧ Drawn0 w w')
  case atStart => exact ⟨(0), (by first | rfl | (simp; done) | (simp [*]; done)), H', ⟨Nat.le_refl _⟩, by repeat (first | exact Drawn0.refl _ | apply Drawn0.step)⟩
  case round =>
   clear H'
   try clear c1
   try clear c2
   try clear p2
   obtain ⟨x6_1, rfl, HA, HK1, ⟨m1, rfl⟩⟩ := hrel
   cases gk with
   | zero => exact absurd HA.out (by simp [J17_.l0])
   | succ k1 =>
    have H := HA.out
    clear HA
    simp only [J17_.l0] at H
    obtain ⟨ji4, hji4⟩ : ∃ j_ : Int, (mn (l0.length : Int) (l1.length : Int)) = j_ := ⟨_, rfl⟩
    replace H : (if x6_1 < (ji4) then (if 0 ≤ x6_1 then (if x6_1 < (l0.length : Int) then (if x6_1 < (l1.length : Int) then (if (rdOf ByteArray.empty l0 x6_1).toList = (rdOf ByteArray.empty l1 x6_1).toList then (J17_.l0 k1 l0 l1 (wrap64 (x6_1 + 1))) else (J17_.j1 k1 l0 l1 x6_1)) else (none)) else (none)) else (none)) else (J17_.j1 k1 l0 l1 x6_1)) = some (r1, r2) := by first | (rw [hji4] at H; exact H) | (simp only [hji4] at H ⊢; exact H)
    have hji4_ : (if (l1.length : Int) < (l0.length : Int) then (l1.length : Int) else (l0.length : Int)) = ji4 := hji4
    have hji4_n : (if l1.length < l0.length then (l1.length : Int) else (l0.length : Int)) = ji4 := by first | exact_mod_cast hji4_ | (rw [← hji4_]; simp only [Int.ofNat_lt]; done) | (rw [← hji4_]; (repeat' split) <;> omega)
    by_cases c5 : x6_1 < (ji4)
    ·rw [if_pos c5] at H
     have c5b0 : decide (x6_1 < (ji4)) = true := decide_eq_true c5
     clear c5
     (first | rw [c5b0] | (simp only [i64_w, i32_w]; rw [c5b0]) | skip)
     by_cases c6 : 0 ≤ x6_1
     ·rw [if_pos c6] at H
      have c6b0 : decide (0 ≤ x6_1) = true := decide_eq_true c6
      clear c6
      by_cases c7 : x6_1 < (l0.length : Int)
      ·rw [if_pos c7] at H
       have c7b0 : decide (x6_1 < (l0.length : Int)) = true := decide_eq_true c7
       clear c7
       by_cases c8 : x6_1 < (l1.length : Int)
       ·rw [if_pos c8] at H
        have c8b0 : decide (x6_1 < (l1.length : Int)) = true := decide_eq_true c8
        clear c8
        by_cases c9 : (rdOf ByteArray.empty l0 x6_1).toList = (rdOf ByteArray.empty l1 x6_1).toList
        ·rw [if_pos c9] at H
         have c9b0 : ((rdOf ByteArray.empty l0 x6_1).toList == (rdOf ByteArray.empty l1 x6_1).toList) = true := beq_iff_eq.mpr c9
         have c9b1 : ((rdOf ByteArray.empty l0 x6_1).toList != (rdOf ByteArray.empty l1 x6_1).toList) = false := bne_eq_false_iff_eq.mpr c9
         clear c9
         have H' := Ja38_.mk H
         clear H
         have p101 : 0 ≤ (x6_1 : Int) := of_decide_eq_true (by first | (with_reducible assumption) | assumption)
         have q101 : x6_1 < (l0.length : Int) := of_decide_eq_true (by first | (with_reducible assumption) | assumption)
         obtain ⟨ad101, e101, hx101_0⟩ := Kd.at_string HR0.out x6_1 p101 q101
         cases e101
         replace p101 := eq_true p101
         replace q101 := eq_true q101
         have p102 : 0 ≤ (x6_1 : Int) := of_decide_eq_true (by first | (with_reducible assumption) | assumption)
         have q102 : x6_1 < (l1.length : Int) := of_decide_eq_true (by first | (with_reducible assumption) | assumption)
         obtain ⟨ad102, e102, hx102_0⟩ := Kd.at_string HR1.out x6_1 p102 q102
         cases e102
         replace p102 := eq_true p102
         replace q102 := eq_true q102
         go_wp2
         repeat (go_quiet (fail); try go_wp2)
         go_roundg k1
         case measure => have := HK1.out; omega
         case rel => exact ⟨(wrap64 (x6_1 + 1)), (by first | rfl | (simp; done) | (simp [*]; done)), H', ⟨by have := HK1.out; omega⟩, by repeat (first | exact Drawn0.refl _ | apply Drawn0.step)⟩
        ·rw [if_neg c9] at H
         have c9b0 : ((rdOf ByteArray.empty l0 x6_1).toList == (rdOf ByteArray.empty l1 x6_1).toList) = false := beq_eq_false_iff_ne.mpr c9
         have c9b1 : ((rdOf ByteArray.empty l0 x6_1).toList != (rdOf ByteArray.empty l1 x6_1).toList) = true := bne_iff_ne.mpr c9
         have H' := Ja38_.mk H
         clear H
         have p101 : 0 ≤ (x6_1 : Int) := of_decide_eq_true (by first | (with_reducible assumption) | assumption)
         have q101 : x6_1 < (l0.length : Int) := of_decide_eq_true (by first | (with_reducible assumption) | assumption)
         obtain ⟨ad101, e101, hx101_0⟩ := Kd.at_string HR0.out x6_1 p101 q101
         cases e101
         replace p101 := eq_true p101
         replace q101 := eq_true q101
         have p102 : 0 ≤ (x6_1 : Int) := of_decide_eq_true (by first | (with_reducible assumption) | assumption)
         have q102 : x6_1 < (l1.length : Int) := of_decide_eq_true (by first | (with_reducible assumption) | assumption)
         obtain ⟨ad102, e102, hx102_0⟩ := Kd.at_string HR1.out x6_1 p102 q102
         cases e102
         replace p102 := eq_true p102
         replace q102 := eq_true q102
         go_wp2
         repeat (go_quiet (fail); try go_wp2)
         go_meet
         case rel => exact ⟨_, (x6_1), (by first | rfl | (simp; done) | (simp [*]; done)), H', ⟨by have := HK1.out; first | omega | exact Nat.le_refl _⟩, by repeat (first | exact Drawn0.refl _ | apply Drawn0.step)⟩
       ·rw [if_neg c8] at H
        exact absurd H (by simp)
      ·rw [if_neg c7] at H
       exact absurd H (by simp)
     ·rw [if_neg c6] at H
      exact absurd H (by simp)
    ·rw [if_neg c5] at H
     have c5b0 : decide (x6_1 < (ji4)) = false := decide_eq_false c5
     clear c5
     (first | rw [c5b0] | (simp only [i64_w, i32_w]; rw [c5b0]) | skip)
     have H' := Ja38_.mk H
     clear H
     go_wp2
     repeat (go_quiet (fail); try go_wp2)
     go_meet
     case rel => exact ⟨_, (x6_1), (by first | rfl | (simp; done) | (simp [*]; done)), H', ⟨by have := HK1.out; first | omega | exact Nat.le_refl _⟩, by repeat (first | exact Drawn0.refl _ | apply Drawn0.step)⟩
 case rest =>
  clear HC3
  try clear c1
  try clear p1
  try clear q1
  try clear hx1
  try clear c2
  try clear p2
  try clear c5
  try clear c5b0
  try clear c6
  try clear c6b0
  try clear p6
  try clear c7
  try clear c7b0
  try clear c8
  try clear c8b0
  try clear c9
  try clear c9b0
  try clear c9b1
  try clear hx101_0
  try clear hx102_0
  try clear p101
  try clear p102
  try clear p2
  try clear q101
  try clear q102
  obtain ⟨kq, x6_2, rfl, HA, HJ2, ⟨mc2, rfl⟩⟩ := hcut
  cases kq with
  | zero => exact absurd HA.out (by simp [J17_.j1])
  | succ kj2 =>
   have H := HA.out
   clear HA
   simp only [J17_.j1] at H
   by_cases c10 : 0 ≤ x6_2
   ·rw [if_pos c10] at H
    have c10b0 := eq_true c10
    have c10b1 : decide (0 ≤ x6_2) = true := decide_eq_true c10
    clear c10
    by_cases c11 : x6_2 ≤ (l0.length : Int)
    ·rw [if_pos c11] at H
     have c11b0 := eq_true c11
     have c11b1 : decide (x6_2 ≤ (l0.length : Int)) = true := decide_eq_true c11
     clear c11
     have c12b0 := eq_true (of_decide_eq_true (by first | (with_reducible assumption) | assumption) : 0 ≤ x6_2)
     by_cases c13 : x6_2 ≤ (l1.length : Int)
     ·rw [if_pos c13] at H
      have c13b0 := eq_true c13
      have c13b1 : decide (x6_2 ≤ (l1.length : Int)) = true := decide_eq_true c13
      clear c13
      have H' := Ja38_.mk H
      clear H
      obtain ⟨i014, hi014, _, hsz14, _⟩ := info_parts info9
      obtain ⟨A14, hcut14, hA14, hC14⟩ := print_drop_of (P := Try.prog) Value.string (⟨#[]⟩ : ByteArray) 27 9 .i64 Try.underlying27 hi014 hsz14 A0 c0 l0 x6_2 (of_decide_eq_true (by first | (with_reducible assumption) | assumption)) (of_decide_eq_true (by first | (with_reducible assumption) | assumption)) HC0.out
      have HR103 := Ja38_.mk (Kd.C_of_reads (h1 := fun _ => rfl) (hA14 _ (Kd.reads_of_C HR0.out)))
      have HC103 := Ja38_.mk hC14
      clear hA14 hC14 hi014 hsz14
      obtain ⟨i015, hi015, _, hsz15, _⟩ := info_parts info9
      obtain ⟨A15, hcut15, hA15, hC15⟩ := print_drop_of (P := Try.prog) Value.string (⟨#[]⟩ : ByteArray) 27 9 .i64 Try.underlying27 hi015 hsz15 A1 c1 l1 x6_2 (of_decide_eq_true (by first | (with_reducible assumption) | assumption)) (of_decide_eq_true (by first | (with_reducible assumption) | assumption)) HC1.out
      have HR104 := Ja38_.mk (Kd.C_of_reads (h1 := fun _ => rfl) (hA15 _ (Kd.reads_of_C HR1.out)))
      have HC104 := Ja38_.mk hC15
      clear hA15 hC15 hi015 hsz15
      go_wp2
      repeat (go_quiet (fail); try go_wp2)
      go_loopg [7] kj2 (fun kq v7 w' => ∃ (x7_2 : Int), v7 = .int .i64 x7_2 ∧ Ja38_ (J17_.l1 kq (l0.drop (x6_2 : Int).toNat) (l1.drop (x6_2 : Int).toNat) x6_2 x7_2 = some (r1, r2)) ∧ Ja38_ (kq ≤ kj2) ∧ Drawn0 w w')
      case atStart => exact ⟨(0), (by first | rfl | (simp; done) | (simp [*]; done)), H', ⟨Nat.le_refl _⟩, by repeat (first | exact Drawn0.refl _ | apply Drawn0.step)⟩
      case round =>
       clear H'
       try clear c1
       try clear p1
       try clear q1
       try clear hx1
       try clear c2
       try clear p2
       try clear c5
       try clear c5b0
       try clear c6
       try clear c6b0
       try clear p6
       try clear c7
       try clear c7b0
       try clear c8
       try clear c8b0
       try clear c9
       try clear c9b0
       try clear c9b1
       try clear c10
       try clear c10b0
       try clear c10b1
       try clear p10
       try clear q10
       try clear hx10
       try clear c11
       try clear c11b0
       try clear c11b1
       try clear c12
       try clear c12b0
       try clear c13
       try clear c13b0
       try clear c13b1
       try clear hx101_0
       try clear hx102_0
       try clear p1
       try clear p101
       try clear p102
       try clear p2
       try clear p6
       try clear q1
       try clear q101
       try clear q102
       obtain ⟨x7_2, rfl, HA, HK2, ⟨m2, rfl⟩⟩ := hrel
       cases gk with
       | zero => exact absurd HA.out (by simp [J17_.l1])
       | succ k2 =>
        have H := HA.out
        clear HA
        simp only [J17_.l1] at H
        obtain ⟨ji16, hji16⟩ : ∃ j_ : Int, (mn ((l0.drop (x6_2 : Int).toNat).length : Int) ((l1.drop (x6_2 : Int).toNat).length : Int)) = j_ := ⟨_, rfl⟩
        replace H : (if x7_2 < (ji16) then (if 0 ≤ (wrap64 ((wrap64 (((l0.drop (x6_2 : Int).toNat).length : Int) - 1)) - x7_2)) then (if (wrap64 ((wrap64 (((l0.drop (x6_2 : Int).toNat).length : Int) - 1)) - x7_2)) < ((l0.drop (x6_2 : Int).toNat).length : Int) then (if 0 ≤ (wrap64 ((wrap64 (((l1.drop (x6_2 : Int).toNat).length : Int) - 1)) - x7_2)) then (if (wrap64 ((wrap64 (((l1.drop (x6_2 : Int).toNat).length : Int) - 1)) - x7_2)) < ((l1.drop (x6_2 : Int).toNat).length : Int) then (if (rdOf ByteArray.empty (l0.drop (x6_2 : Int).toNat) (wrap64 ((wrap64 (((l0.drop (x6_2 : Int).toNat).length : Int) - 1)) - x7_2))).toList = (rdOf ByteArray.empty (l1.drop (x6_2 : Int).toNat) (wrap64 ((wrap64 (((l1.drop (x6_2 : Int).toNat).length : Int) - 1)) - x7_2))).toList then (J17_.l1 k2 (l0.drop (x6_2 : Int).toNat) (l1.drop (x6_2 : Int).toNat) x6_2 (wrap64 (x7_2 + 1))) else (some (x6_2, x7_2))) else (none)) else (none)) else (none)) else (none)) else (some (x6_2, x7_2))) = some (r1, r2) := by first | (rw [hji16] at H; exact H) | (simp only [hji16] at H ⊢; exact H)
        have hji16_ : (if ((l1.drop (x6_2 : Int).toNat).length : Int) < ((l0.drop (x6_2 : Int).toNat).length : Int) then ((l1.drop (x6_2 : Int).toNat).length : Int) else ((l0.drop (x6_2 : Int).toNat).length : Int)) = ji16 := hji16
        (try (have hji16_d := hji16_; simp only [List.length_drop, List.length_take] at hji16_d))
        have hji16_n : (if (l1.drop (x6_2 : Int).toNat).length < (l0.drop (x6_2 : Int).toNat).length then ((l1.drop (x6_2 : Int).toNat).length : Int) else ((l0.drop (x6_2 : Int).toNat).length : Int)) = ji16 := by first | exact_mod_cast hji16_ | (rw [← hji16_]; simp only [Int.ofNat_lt]; done) | (rw [← hji16_]; (repeat' split) <;> omega)
        (try (have hji16_nd := hji16_n; simp only [List.length_drop, List.length_take] at hji16_nd))
        by_cases c17 : x7_2 < (ji16)
        ·rw [if_pos c17] at H
         have c17b0 : decide (x7_2 < (ji16)) = true := decide_eq_true c17
         clear c17
         obtain ⟨ji18, hji18⟩ : ∃ j_ : Int, (wrap64 ((wrap64 (((l0.drop (x6_2 : Int).toNat).length : Int) - 1)) - x7_2)) = j_ := ⟨_, rfl⟩
         replace H : (if 0 ≤ (ji18) then (if (ji18) < ((l0.drop (x6_2 : Int).toNat).length : Int) then (if 0 ≤ (wrap64 ((wrap64 (((l1.drop (x6_2 : Int).toNat).length : Int) - 1)) - x7_2)) then (if (wrap64 ((wrap64 (((l1.drop (x6_2 : Int).toNat).length : Int) - 1)) - x7_2)) < ((l1.drop (x6_2 : Int).toNat).length : Int) then (if (rdOf ByteArray.empty (l0.drop (x6_2 : Int).toNat) (ji18)).toList = (rdOf ByteArray.empty (l1.drop (x6_2 : Int).toNat) (wrap64 ((wrap64 (((l1.drop (x6_2 : Int).toNat).length : Int) - 1)) - x7_2))).toList then (J17_.l1 k2 (l0.drop (x6_2 : Int).toNat) (l1.drop (x6_2 : Int).toNat) x6_2 (wrap64 (x7_2 + 1))) else (some (x6_2, x7_2))) else (none)) else (none)) else (none)) else (none)) = some (r1, r2) := by first | (rw [hji18] at H; exact H) | (simp only [hji18] at H ⊢; exact H)
         have hji18w : (IntKind.i64.wrap ((wrap64 (((l0.drop (x6_2 : Int).toNat).length : Int) - 1)) - x7_2)) = ji18 := (i64_w _).trans hji18
         (try (have hji18wd := hji18w; simp only [List.length_drop, List.length_take] at hji18wd))
         by_cases c19 : 0 ≤ (ji18)
         ·rw [if_pos c19] at H
          have c19b0 : decide (0 ≤ (ji18)) = true := decide_eq_true c19
          clear c19
          by_cases c20 : (ji18) < ((l0.drop (x6_2 : Int).toNat).length : Int)
          ·rw [if_pos c20] at H
           have c20b0 : decide ((ji18) < ((l0.drop (x6_2 : Int).toNat).length : Int)) = true := decide_eq_true c20
           (try (have c20b0d := c20b0; simp only [List.length_drop, List.length_take] at c20b0d))
           clear c20
           obtain ⟨ji21, hji21⟩ : ∃ j_ : Int, (wrap64 ((wrap64 (((l1.drop (x6_2 : Int).toNat).length : Int) - 1)) - x7_2)) = j_ := ⟨_, rfl⟩
           replace H : (if 0 ≤ (ji21) then (if (ji21) < ((l1.drop (x6_2 : Int).toNat).length : Int) then (if (rdOf ByteArray.empty (l0.drop (x6_2 : Int).toNat) (ji18)).toList = (rdOf ByteArray.empty (l1.drop (x6_2 : Int).toNat) (ji21)).toList then (J17_.l1 k2 (l0.drop (x6_2 : Int).toNat) (l1.drop (x6_2 : Int).toNat) x6_2 (wrap64 (x7_2 + 1))) else (some (x6_2, x7_2))) else (none)) else (none)) = some (r1, r2) := by first | (rw [hji21] at H; exact H) | (simp only [hji21] at H ⊢; exact H)
           have hji21w : (IntKind.i64.wrap ((wrap64 (((l1.drop (x6_2 : Int).toNat).length : Int) - 1)) - x7_2)) = ji21 := (i64_w _).trans hji21
           (try (have hji21wd := hji21w; simp only [List.length_drop, List.length_take] at hji21wd))
           by_cases c22 : 0 ≤ (ji21)
           ·rw [if_pos c22] at H
            have c22b0 : decide (0 ≤ (ji21)) = true := decide_eq_true c22
            clear c22
            by_cases c23 : (ji21) < ((l1.drop (x6_2 : Int).toNat).length : Int)
            ·rw [if_pos c23] at H
             have c23b0 : decide ((ji21) < ((l1.drop (x6_2 : Int).toNat).length : Int)) = true := decide_eq_true c23
             (try (have c23b0d := c23b0; simp only [List.length_drop, List.length_take] at c23b0d))
             clear c23
             by_cases c24 : (rdOf ByteArray.empty (l0.drop (x6_2 : Int).toNat) (ji18)).toList = (rdOf ByteArray.empty (l1.drop (x6_2 : Int).toNat) (ji21)).toList
             ·rw [if_pos c24] at H
              have c24b0 : ((rdOf ByteArray.empty (l0.drop (x6_2 : Int).toNat) (ji18)).toList == (rdOf ByteArray.empty (l1.drop (x6_2 : Int).toNat) (ji21)).toList) = true := beq_iff_eq.mpr c24
              have c24b1 : ((rdOf ByteArray.empty (l0.drop (x6_2 : Int).toNat) (ji18)).toList != (rdOf ByteArray.empty (l1.drop (x6_2 : Int).toNat) (ji21)).toList) = false := bne_eq_false_iff_eq.mpr c24
              clear c24
              have H' := Ja38_.mk H
              clear H
              have p105 : 0 ≤ ((ji18) : Int) := of_decide_eq_true (by first | (with_reducible assumption) | assumption)
              have q105 : (ji18) < ((l0.drop (x6_2 : Int).toNat).length : Int) := of_decide_eq_true (by first | (with_reducible assumption) | assumption)
              obtain ⟨ad105, e105, hx105_0⟩ := Kd.at_string HR103.out (ji18) p105 q105
              cases e105
              replace p105 := eq_true p105
              replace q105 := eq_true q105
              (try (have q105d := q105; simp only [List.length_drop, List.length_take] at q105d))
              have p106 : 0 ≤ ((ji21) : Int) := of_decide_eq_true (by first | (with_reducible assumption) | assumption)
              have q106 : (ji21) < ((l1.drop (x6_2 : Int).toNat).length : Int) := of_decide_eq_true (by first | (with_reducible assumption) | assumption)
              obtain ⟨ad106, e106, hx106_0⟩ := Kd.at_string HR104.out (ji21) p106 q106
              cases e106
              replace p106 := eq_true p106
              replace q106 := eq_true q106
              (try (have q106d := q106; simp only [List.length_drop, List.length_take] at q106d))
              go_wp2
              repeat (go_quiet (fail); try go_wp2)
              go_roundg k2
              case measure => have := HJ2.out; have := HK2.out; omega
              case rel => exact ⟨(wrap64 (x7_2 + 1)), (by first | rfl | (simp; done) | (simp [*]; done)), H', ⟨by have := HJ2.out; have := HK2.out; omega⟩, by repeat (first | exact Drawn0.refl _ | apply Drawn0.step)⟩
             ·rw [if_neg c24] at H
              have c24b0 : ((rdOf ByteArray.empty (l0.drop (x6_2 : Int).toNat) (ji18)).toList == (rdOf ByteArray.empty (l1.drop (x6_2 : Int).toNat) (ji21)).toList) = false := beq_eq_false_iff_ne.mpr c24
              have c24b1 : ((rdOf ByteArray.empty (l0.drop (x6_2 : Int).toNat) (ji18)).toList != (rdOf ByteArray.empty (l1.drop (x6_2 : Int).toNat) (ji21)).toList) = true := bne_iff_ne.mpr c24
              simp only [Option.some.injEq, Prod.mk.injEq] at H
              obtain ⟨rfl, rfl⟩ := H
              have p105 : 0 ≤ ((ji18) : Int) := of_decide_eq_true (by first | (with_reducible assumption) | assumption)
              have q105 : (ji18) < ((l0.drop (x6_2 : Int).toNat).length : Int) := of_decide_eq_true (by first | (with_reducible assumption) | assumption)
              obtain ⟨ad105, e105, hx105_0⟩ := Kd.at_string HR103.out (ji18) p105 q105
              cases e105
              replace p105 := eq_true p105
              replace q105 := eq_true q105
              (try (have q105d := q105; simp only [List.length_drop, List.length_take] at q105d))
              have p106 : 0 ≤ ((ji21) : Int) := of_decide_eq_true (by first | (with_reducible assumption) | assumption)
              have q106 : (ji21) < ((l1.drop (x6_2 : Int).toNat).length : Int) := of_decide_eq_true (by first | (with_reducible assumption) | assumption)
              obtain ⟨ad106, e106, hx106_0⟩ := Kd.at_string HR104.out (ji21) p106 q106
              cases e106
              replace p106 := eq_true p106
              replace q106 := eq_true q106
              (try (have q106d := q106; simp only [List.length_drop, List.length_take] at q106d))
              go_wp2
              repeat (go_quiet (fail); try go_wp2)
              go_ret2
              exact ⟨by first | rfl | (simp; done) | (simp only [← hji16, ← hji18, ← hji21] <;> (first | rfl | simp)) | (simp [*]; done), by repeat (first | exact Drawn0.refl _ | apply Drawn0.step)⟩
            ·rw [if_neg c23] at H
             exact absurd H (by simp)
           ·rw [if_neg c22] at H
            exact absurd H (by simp)
          ·rw [if_neg c20] at H
           exact absurd H (by simp)
         ·rw [if_neg c19] at H
          exact absurd H (by simp)
        ·rw [if_neg c17] at H
         have c17b0 : decide (x7_2 < (ji16)) = false := decide_eq_false c17
         clear c17
         simp only [Option.some.injEq, Prod.mk.injEq] at H
         obtain ⟨rfl, rfl⟩ := H
         go_wp2
         repeat (go_quiet (fail); try go_wp2)
         go_ret2
         exact ⟨by first | rfl | (simp; done) | (simp only [← hji16] <;> (first | rfl | simp)) | (simp [*]; done), by repeat (first | exact Drawn0.refl _ | apply Drawn0.step)⟩
     ·rw [if_neg c13] at H
      exact absurd H (by simp)
    ·rw [if_neg c11] at H
     exact absurd H (by simp)
   ·rw [if_neg c10] at H
    exact absurd H (by simp)
end Go.Proofs.Ytadafplbgophfaa.PA
end
section
namespace Go.Proofs.Ytadafplbgophfaa.PA
open Go.RowKit Go.Proofs.YtadafplbgophfaaW.PrintWords Go.Proofs.YtadafplbgophfaaW.PrintLast Go.Proofs.YtadafplbgophfaaW.PrintMore
attribute [local go_sem] max2_int min2_int max_two min_two max_three min_three max_four min_four   -- for this text's walks alone
set_option linter.unusedVariables false
set_option linter.unusedSimpArgs false
def J3_.f (k : Nat) (l0 : List ByteArray) (l1 : List ByteArray) : Option (Int × Int) := (J17_.f k l0 l1).bind fun bt101 => (some (bt101.1, bt101.2))
theorem J3_.mono : ∀ a0 a1 k, LeO (J3_.f k a0 a1) (J3_.f (k + 1) a0 a1) := by
 intro a0 a1 k
 unfold J3_.f
 repeat' first
   | (with_reducible exact J17_.mono _ _ _)
   | (with_reducible exact LeO.refl _)
   | (with_reducible exact LeO.none _)
   | (with_reducible refine LeO.ite ?_ ?_)
   | (with_reducible refine LeO.bind ?_ (fun _ => ?_))
   | exact J17_.mono _ _ _
   | exact LeO.none _
   | refine LeO.ite ?_ ?_
   | refine LeO.bind ?_ (fun _ => ?_)
set_option maxHeartbeats 8000000 in
set_option maxRecDepth 100000 in
theorem J3_.calls (k : Nat) (A0 : Option Addr) (c0 : Nat) (l0 : List ByteArray) (A1 : Option Addr) (c1 : Nat) (l1 : List ByteArray) (r1 : Int) (r2 : Int) (w : World) (hr0 : Kd.C Kd.string w A0 l0.length l0) (hc0 : l0.length ≤ c0) (hr1 : Kd.C Kd.string w A1 l1.length l1) (hc1 : l1.length ≤ c1) (h : J3_.f k l0 l1 = some (r1, r2)) :
  Calls Try.prog 57 #[.slice A0 l0.length c0, .slice A1 l1.length c1] w fun e w' => e = .returned (.tuple #[.int .i64 r1, .int .i64 r2]) ∧ Drawn0 w w' := by
 have HR0 := Ja38_.mk hr0
 have HC0 := Ja38_.mk hc0
 clear hr0 hc0
 have HR1 := Ja38_.mk hr1
 have HC1 := Ja38_.mk hc1
 clear hr1 hc1
 have H : ((J17_.f k l0 l1).bind fun bt101 => (some (bt101.1, bt101.2))) = some (r1, r2) := h
 clear h
 replace H := Option.bind_eq_some_iff.mp H
 obtain ⟨⟨t101, t102⟩, A30, H⟩ := H
 replace H : (some (t101, t102)) = some (r1, r2) := H
 have A3 := Ja38_.mk A30
 clear A30
 simp only [Option.some.injEq, Prod.mk.injEq] at H
 obtain ⟨rfl, rfl⟩ := H
 go_enter Try.func57, Try.ntmps57
 go_wp2_with (first | ((with_reducible refine gate_callee (f := 22) rfl ?_); refine goesL_ (some 8) rfl rfl Try.func22 (by kernel_rfl) rfl #[.slice A0 l0.length c0, .slice A1 l1.length c1] rfl (by (try simp only [List.map_toArray, List.map_cons, List.map_nil]); first | done | rfl | (simp only [List.length_drop, List.length_take]; rfl)) ?_; (with_reducible refine (J17_.calls k _ _ l0 _ _ l1 t101 t102 _ ?side1 ?side2 ?side3 ?side4 A3.out).mono ?_); (case side1 => repeat (first | exact HR0.out | (with_reducible refine Kd.C_alloc ?_ _) | (with_reducible refine Kd.C_drewN ?_ _) | (with_reducible refine Kd.C_drew ?_))); (case side2 => exact HC0.out); (case side3 => repeat (first | exact HR1.out | (with_reducible refine Kd.C_alloc ?_ _) | (with_reducible refine Kd.C_drewN ?_ _) | (with_reducible refine Kd.C_drew ?_))); (case side4 => exact HC1.out); rintro e w' ⟨rfl, ⟨nd, rfl⟩⟩; refine ⟨_, rfl, ?_⟩))
 go_ret2
 exact ⟨by first | rfl | (simp; done) | (simp [*]; done), by repeat (first | exact Drawn0.refl _ | apply Drawn0.step)⟩
end Go.Proofs.Ytadafplbgophfaa.PA
end
section
namespace Go.Proofs.Ytadafplbgophfaa.PA
open Go.RowKit Go.Proofs.YtadafplbgophfaaW.PrintWords Go.Proofs.YtadafplbgophfaaW.PrintLast Go.Proofs.YtadafplbgophfaaW.PrintMore
attribute [local go_sem] max2_int min2_int max_two min_two max_three min_three max_four min_four   -- for this text's walks alone
set_option linter.unusedVariables false
set_option linter.unusedSimpArgs false
theorem eqA116 (d : Nat) (w : World) (x0 y0 : ByteArray) (x1 y1 : ByteArray) (x2 y2 : ByteArray) :
    (Op.equalIn (d + 2) 116 (.agg #[.string x0, .string x1, .string x2]) (.agg #[.string y0, .string y1, .string y2])).run Try.prog w = .ok (x0.toList == y0.toList && (x1.toList == y1.toList && (x2.toList == y2.toList))) w := by
  refine eqA_of Try.underlying116 (by kernel_rfl) ?_
  refine eqf_cons (by rfl) (by go_simp; rfl) (by go_simp; rfl) (by go_simp) ?_
  refine eqf_cons (by rfl) (by go_simp; rfl) (by go_simp; rfl) (by go_simp) ?_
  exact eqf_last (by rfl) (by go_simp; rfl) (by go_simp; rfl) (by go_simp)
theorem eqA120 (d : Nat) (w : World) (x0 y0 : ByteArray) (x1 y1 : ByteArray) (x2 y2 : ByteArray) (x3 y3 : Bool) (x4 y4 : ByteArray) (x5 y5 : ByteArray) (x6 y6 : ByteArray) (x7 y7 : ByteArray) (x8 y8 : Bool) :
    (Op.equalIn (d + 3) 120 (.agg #[.string x0, .string x1, .string x2, .bool x3, .string x4, .string x5, .string x6, .string x7, .bool x8]) (.agg #[.string y0, .string y1, .string y2, .bool y3, .string y4, .string y5, .string y6, .string y7, .bool y8])).run Try.prog w = .ok ((x0.toList == y0.toList && (x1.toList == y1.toList && (x2.toList == y2.toList))) && (x3 == y3 && (x4.toList == y4.toList && (x5.toList == y5.toList && (x6.toList == y6.toList && (x7.toList == y7.toList && (x8 == y8))))))) w := by
  refine eqA_of Try.underlying120 (by kernel_rfl) ?_
  refine eqf_cons (by rfl) (by go_simp) (by go_simp) (eqA116 (d + 0) w _ _ _ _ _ _) ?_
  refine eqf_cons (by rfl) (by go_simp; rfl) (by go_simp; rfl) (by go_simp) ?_
  refine eqf_cons (by rfl) (by go_simp; rfl) (by go_simp; rfl) (by go_simp) ?_
  refine eqf_cons (by rfl) (by go_simp; rfl) (by go_simp; rfl) (by go_simp) ?_
  refine eqf_cons (by rfl) (by go_simp; rfl) (by go_simp; rfl) (by go_simp) ?_
  refine eqf_cons (by rfl) (by go_simp; rfl) (by go_simp; rfl) (by go_simp) ?_
  exact eqf_last (by rfl) (by go_simp; rfl) (by go_simp; rfl) (by go_simp)
end Go.Proofs.Ytadafplbgophfaa.PA
end
section
namespace Go.Proofs.Ytadafplbgophfaa.PA
open Go.RowKit Go.Proofs.YtadafplbgophfaaW.PrintWords Go.Proofs.YtadafplbgophfaaW.PrintLast Go.Proofs.YtadafplbgophfaaW.PrintMore
attribute [local go_sem] max2_int min2_int max_two min_two max_three min_three max_four min_four   -- for this text's walks alone
set_option linter.unusedVariables false
set_option linter.unusedSimpArgs false
attribute [local go_sem high] eqA120
def J11_.f (a0_0 : ByteArray) (a0_1 : ByteArray) (a0_2 : ByteArray) (a0_3 : Bool) (a0_4 : ByteArray) (a0_5 : ByteArray) (a0_6 : ByteArray) (a0_7 : ByteArray) (a0_8 : Bool) : Option (Bool) := some ((a0_0.toList == ([] : List UInt8) && (a0_1.toList == ([] : List UInt8) && (a0_2.toList == ([] : List UInt8)))) && (!a0_3 && (a0_5.toList == ([] : List UInt8) && (a0_6.toList == ([] : List UInt8) && (a0_7.toList == ([] : List UInt8) && (!a0_8))))))
set_option maxHeartbeats 8000000 in
set_option maxRecDepth 100000 in
theorem J11_.calls (a0_0 : ByteArray) (a0_1 : ByteArray) (a0_2 : ByteArray) (a0_3 : Bool) (a0_4 : ByteArray) (a0_5 : ByteArray) (a0_6 : ByteArray) (a0_7 : ByteArray) (a0_8 : Bool) (r : Bool) (w : World) (h : J11_.f a0_0 a0_1 a0_2 a0_3 a0_4 a0_5 a0_6 a0_7 a0_8 = some r) :
  Calls Try.prog 114 #[.agg #[.string a0_0, .string a0_1, .string a0_2, .bool a0_3, .string a0_4, .string a0_5, .string a0_6, .string a0_7, .bool a0_8]] w fun e w' => e = .returned (.bool r) ∧ Below w.heap.size w w' := by
 have hu120 := Try.underlying120
 have HB := Ja38_.mk (Below.refl w.heap.size w)
 have H : (some ((a0_0.toList == ([] : List UInt8) && (a0_1.toList == ([] : List UInt8) && (a0_2.toList == ([] : List UInt8)))) && (!a0_3 && (a0_5.toList == ([] : List UInt8) && (a0_6.toList == ([] : List UInt8) && (a0_7.toList == ([] : List UInt8) && (!a0_8))))))) = some r := h
 clear h
 obtain rfl := Option.some.inj H
 go_enter Try.func114, Try.ntmps114
 go_wp2_with (first | ((with_reducible refine gate_dst (N := 1) rfl ?_); refine box_event ?hg (N := 1) ?hd (cs := #[.string a0_0, .string a0_1, .string a0_2, .bool a0_3, .string a0_4, .string a0_5, .string a0_6, .string a0_7, .bool a0_8]) (t := 120) ?hr ?_; (case hd => rfl); (case hg => rfl); (case hr => first | (go_simp; done) | (go_simp; rfl)); intro gb101 hg w2 hbox hb; have n0_ := Ja38_.mk (Ja44_ (by repeat (first | (with_reducible first | exact HB.out | apply Ja43_ | apply Ja41_ | apply Ja42_) | exact HB.out)) hb); have n1_ := Ja38_.mk (hbox); have n2_ := Ja38_.mk ((by rw [hg]; exact (Ja45_ (by repeat (first | (with_reducible first | exact HB.out | apply Ja43_ | apply Ja41_ | apply Ja42_) | exact HB.out))) : w.heap.size ≤ gb101)); have n3_ := Ja38_.mk ((by rw [hg]; exact (Ja45_ (by repeat (first | (with_reducible first | exact HB.out | apply Ja43_ | apply Ja41_ | apply Ja42_) | exact HB.out))) : w.heap.size ≤ gb101)); clear HB; have HB := n0_; have BK101 := n1_; have GW101 := n2_; have GE101 := n3_; clear n0_ n1_ n2_ n3_; clear hb hbox hg; have hcz3_0 : w2.cell? ⟨gb101, 0, none⟩ = some (.string a0_0) := (Ja39_ BK101.out 0).trans rfl; have hcz3_1 : w2.cell? ⟨gb101, 1, none⟩ = some (.string a0_1) := (Ja39_ BK101.out 1).trans rfl; have hcz3_2 : w2.cell? ⟨gb101, 2, none⟩ = some (.string a0_2) := (Ja39_ BK101.out 2).trans rfl; have hcz3_3 : w2.cell? ⟨gb101, 3, none⟩ = some (.bool a0_3) := (Ja39_ BK101.out 3).trans rfl; have hcz3_4 : w2.cell? ⟨gb101, 4, none⟩ = some (.string a0_4) := (Ja39_ BK101.out 4).trans rfl; have hcz3_5 : w2.cell? ⟨gb101, 5, none⟩ = some (.string a0_5) := (Ja39_ BK101.out 5).trans rfl; have hcz3_6 : w2.cell? ⟨gb101, 6, none⟩ = some (.string a0_6) := (Ja39_ BK101.out 6).trans rfl; have hcz3_7 : w2.cell? ⟨gb101, 7, none⟩ = some (.string a0_7) := (Ja39_ BK101.out 7).trans rfl; have hcz3_8 : w2.cell? ⟨gb101, 8, none⟩ = some (.bool a0_8) := (Ja39_ BK101.out 8).trans rfl; have hfz3_0 := Ja40_ BK101.out 0; have hfz3_1 := Ja40_ BK101.out 1; have hfz3_2 := Ja40_ BK101.out 2; have hfz3_3 := Ja40_ BK101.out 3; have hfz3_4 := Ja40_ BK101.out 4; have hfz3_5 := Ja40_ BK101.out 5; have hfz3_6 := Ja40_ BK101.out 6; have hfz3_7 := Ja40_ BK101.out 7; have hfz3_8 := Ja40_ BK101.out 8))
 go_ret
 exact ⟨by first | rfl | (simp [errW_none, errW_some] <;> rfl) | (simp [*, errW_none, errW_some] <;> rfl), by repeat (first | (with_reducible first | exact HB.out | apply Ja43_ | apply Ja41_ | apply Ja42_ | refine Ja46_ ?_ GE101.out) | exact HB.out)⟩
end Go.Proofs.Ytadafplbgophfaa.PA
end
