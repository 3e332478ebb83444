-- Written by a program of this seat out of the translation. Not trusted: Lean checks it.
import Derived.Test.YtadafplbgophfaaPA0
namespace Go.Proofs.Ytadafplbgophfaa.PA
open Go.RowKit Go.Proofs.YtadafplbgophfaaW.PrintWords Go.Proofs.YtadafplbgophfaaW.PrintLast Go.Proofs.YtadafplbgophfaaW.PrintMore
attribute [local go_sem] max2_int min2_int max_two min_two max_three min_three max_four min_four   -- for this text's walks alone
set_option linter.unusedVariables false
set_option linter.unusedSimpArgs false

/-! ### trim_Ends_int: function 17 -/
mutual
def trim_Ends_int.j1 : Nat → List Int → List Int → Int → Option (Int × Int)
  | 0, _, _, _ => none
  | k + 1, x0, x1, x6 => if 0 ≤ x6 then (if x6 ≤ (x0.length : Int) then (if x6 ≤ (x1.length : Int) then (trim_Ends_int.l1 k (x0.drop (x6 : Int).toNat) (x1.drop (x6 : Int).toNat) x6 0) else (none)) else (none)) else (none)
def trim_Ends_int.l1 : Nat → List Int → List Int → Int → Int → Option (Int × Int)
  | 0, _, _, _, _ => none
  | k + 1, x0, x1, x6, x7 => if x7 < (mn (x0.length : Int) (x1.length : Int)) then (if 0 ≤ (wrap64 ((wrap64 ((x0.length : Int) - 1)) - x7)) then (if (wrap64 ((wrap64 ((x0.length : Int) - 1)) - x7)) < (x0.length : Int) then (if 0 ≤ (wrap64 ((wrap64 ((x1.length : Int) - 1)) - x7)) then (if (wrap64 ((wrap64 ((x1.length : Int) - 1)) - x7)) < (x1.length : Int) then (if (rd x0 (wrap64 ((wrap64 ((x0.length : Int) - 1)) - x7))) = (rd x1 (wrap64 ((wrap64 ((x1.length : Int) - 1)) - x7))) then (trim_Ends_int.l1 k x0 x1 x6 (wrap64 (x7 + 1))) else (some (x6, x7))) else (none)) else (none)) else (none)) else (none)) else (some (x6, x7))
def trim_Ends_int.l0 : Nat → List Int → List Int → Int → Option (Int × Int)
  | 0, _, _, _ => none
  | k + 1, x0, x1, x6 => if x6 < (mn (x0.length : Int) (x1.length : Int)) then (if 0 ≤ x6 then (if x6 < (x0.length : Int) then (if x6 < (x1.length : Int) then (if (rd x0 x6) = (rd x1 x6) then (trim_Ends_int.l0 k x0 x1 (wrap64 (x6 + 1))) else (trim_Ends_int.j1 k x0 x1 x6)) else (none)) else (none)) else (none)) else (trim_Ends_int.j1 k x0 x1 x6)
end
def trim_Ends_int.f (k : Nat) (l0 : List Int) (l1 : List Int) : Option (Int × Int) := trim_Ends_int.l0 k l0 l1 0
theorem trim_Ends_int.mono_l : ∀ k, (∀ y0 y1 y2, LeO (trim_Ends_int.j1 k y0 y1 y2) (trim_Ends_int.j1 (k + 1) y0 y1 y2)) ∧ (∀ y0 y1 y2 y3, LeO (trim_Ends_int.l1 k y0 y1 y2 y3) (trim_Ends_int.l1 (k + 1) y0 y1 y2 y3)) ∧ (∀ y0 y1 y2, LeO (trim_Ends_int.l0 k y0 y1 y2) (trim_Ends_int.l0 (k + 1) y0 y1 y2))
  | 0 => ⟨fun _ _ _ r h => by simp [trim_Ends_int.j1] at h, fun _ _ _ _ r h => by simp [trim_Ends_int.l1] at h, fun _ _ _ r h => by simp [trim_Ends_int.l0] at h⟩
  | k + 1 => by
    obtain ⟨ih0, ih1, ih2⟩ := trim_Ends_int.mono_l k
    refine ⟨?_, ?_, ?_⟩
    · intro y0 y1 y2
      unfold trim_Ends_int.j1
      repeat' first
      | (with_reducible exact ih0 _ _ _)
      | (with_reducible exact ih1 _ _ _ _)
      | (with_reducible exact ih2 _ _ _)
      | (with_reducible exact LeO.refl _)
      | (with_reducible exact LeO.none _)
      | (with_reducible refine LeO.ite ?_ ?_)
      | (with_reducible refine LeO.bind ?_ (fun _ => ?_))
      | exact ih0 _ _ _
      | exact ih1 _ _ _ _
      | exact ih2 _ _ _
      | exact LeO.none _
      | refine LeO.ite ?_ ?_
      | refine LeO.bind ?_ (fun _ => ?_)
    · intro y0 y1 y2 y3
      unfold trim_Ends_int.l1
      repeat' first
      | (with_reducible exact ih0 _ _ _)
      | (with_reducible exact ih1 _ _ _ _)
      | (with_reducible exact ih2 _ _ _)
      | (with_reducible exact LeO.refl _)
      | (with_reducible exact LeO.none _)
      | (with_reducible refine LeO.ite ?_ ?_)
      | (with_reducible refine LeO.bind ?_ (fun _ => ?_))
      | exact ih0 _ _ _
      | exact ih1 _ _ _ _
      | exact ih2 _ _ _
      | exact LeO.none _
      | refine LeO.ite ?_ ?_
      | refine LeO.bind ?_ (fun _ => ?_)
    · intro y0 y1 y2
      unfold trim_Ends_int.l0
      repeat' first
      | (with_reducible exact ih0 _ _ _)
      | (with_reducible exact ih1 _ _ _ _)
      | (with_reducible exact ih2 _ _ _)
      | (with_reducible exact LeO.refl _)
      | (with_reducible exact LeO.none _)
      | (with_reducible refine LeO.ite ?_ ?_)
      | (with_reducible refine LeO.bind ?_ (fun _ => ?_))
      | exact ih0 _ _ _
      | exact ih1 _ _ _ _
      | exact ih2 _ _ _
      | exact LeO.none _
      | refine LeO.ite ?_ ?_
      | refine LeO.bind ?_ (fun _ => ?_)
theorem trim_Ends_int.mono : ∀ a0 a1 k, LeO (trim_Ends_int.f k a0 a1) (trim_Ends_int.f (k + 1) a0 a1) := by
  intro a0 a1 k
  obtain ⟨ih0, ih1, ih2⟩ := trim_Ends_int.mono_l k
  unfold trim_Ends_int.f
  repeat' first
      | (with_reducible exact ih0 _ _ _)
      | (with_reducible exact ih1 _ _ _ _)
      | (with_reducible exact ih2 _ _ _)
      | (with_reducible exact LeO.refl _)
      | (with_reducible exact LeO.none _)
      | (with_reducible refine LeO.ite ?_ ?_)
      | (with_reducible refine LeO.bind ?_ (fun _ => ?_))
      | exact ih0 _ _ _
      | exact ih1 _ _ _ _
      | exact ih2 _ _ _
      | exact LeO.none _
      | refine LeO.ite ?_ ?_
      | refine LeO.bind ?_ (fun _ => ?_)
set_option maxHeartbeats 8000000 in
set_option maxRecDepth 100000 in
theorem trim_Ends_int.calls (k : Nat) (A0 : Option Addr) (c0 : Nat) (l0 : List Int) (A1 : Option Addr) (c1 : Nat) (l1 : List Int) (r1 : Int) (r2 : Int) (w : World) (hr0 : Kd.C (Kd.int .i64) w A0 l0.length l0) (hc0 : l0.length ≤ c0) (hr1 : Kd.C (Kd.int .i64) w A1 l1.length l1) (hc1 : l1.length ≤ c1) (h : trim_Ends_int.f k l0 l1 = some (r1, r2)) :
    Calls Try.prog 17 #[.slice A0 l0.length c0, .slice A1 l1.length c1] w fun e w' => e = .returned (.tuple #[.int .i64 r1, .int .i64 r2]) ∧ Drawn0 w w' := by
  have HR0 := Aside0.mk hr0
  have HC0 := Aside0.mk hc0
  clear hr0 hc0
  have HR1 := Aside0.mk hr1
  have HC1 := Aside0.mk hc1
  clear hr1 hc1
  have H : (trim_Ends_int.l0 k l0 l1 0) = some (r1, r2) := h
  clear h
  have HC3 := Aside0.mk H
  clear H
  go_enter Try.func17, Try.ntmps17
  go_upto_block 0 with (fail)
  repeat (go_quiet (fail); go_upto_block 0 with (fail))
  go_cut [6] (fun v6 wc => ∃ (kq : Nat) (x6_2 : Int), v6 = .int .i64 x6_2 ∧ Aside0 (trim_Ends_int.j1 kq l0 l1 x6_2 = some (r1, r2)) ∧ Aside0 (kq ≤ k) ∧ Drawn0 w wc)
  case first =>
    have H := HC3.out
    clear HC3
    have H' := Aside0.mk H
    clear H
    go_wp2
    repeat (go_quiet (fail); try go_wp2)
    go_loopg [6] k (fun kq v6 w' => ∃ (x6_1 : Int), v6 = .int .i64 x6_1 ∧ Aside0 (trim_Ends_int.l0 kq l0 l1 x6_1 = some (r1, r2)) ∧ Aside0 (kq ≤ k) ∧ Drawn0 w w')
    case atStart => exact ⟨(0), (by first | rfl | (simp; done) | (simp [*]; done)), H', ⟨Nat.le_refl _⟩, by repeat (first | exact Drawn0.refl _ | apply Drawn0.step)⟩
    case round =>
      clear H'
      try clear c1
      try clear p2
      obtain ⟨x6_1, rfl, HA, HK1, ⟨m1, rfl⟩⟩ := hrel
      cases gk with
      | zero => exact absurd HA.out (by simp [trim_Ends_int.l0])
      | succ k1 =>
        have H := HA.out
        clear HA
        simp only [trim_Ends_int.l0] at H
        obtain ⟨ji4, hji4⟩ : ∃ j_ : Int, (mn (l0.length : Int) (l1.length : Int)) = j_ := ⟨_, rfl⟩
        replace H : (if x6_1 < (ji4) then (if 0 ≤ x6_1 then (if x6_1 < (l0.length : Int) then (if x6_1 < (l1.length : Int) then (if (rd l0 x6_1) = (rd l1 x6_1) then (trim_Ends_int.l0 k1 l0 l1 (wrap64 (x6_1 + 1))) else (trim_Ends_int.j1 k1 l0 l1 x6_1)) else (none)) else (none)) else (none)) else (trim_Ends_int.j1 k1 l0 l1 x6_1)) = some (r1, r2) := by first | (rw [hji4] at H; exact H) | (simp only [hji4] at H ⊢; exact H)
        have hji4_ : (if (l1.length : Int) < (l0.length : Int) then (l1.length : Int) else (l0.length : Int)) = ji4 := hji4
        have hji4_n : (if l1.length < l0.length then (l1.length : Int) else (l0.length : Int)) = ji4 := by first | exact_mod_cast hji4_ | (rw [← hji4_]; simp only [Int.ofNat_lt]; done) | (rw [← hji4_]; (repeat' split) <;> omega)
        by_cases c5 : x6_1 < (ji4)
        · rw [if_pos c5] at H
          have c5b0 : decide (x6_1 < (ji4)) = true := decide_eq_true c5
          clear c5
          (first | rw [c5b0] | (simp only [i64_w, i32_w]; rw [c5b0]) | skip)
          by_cases c6 : 0 ≤ x6_1
          · rw [if_pos c6] at H
            have c6b0 : decide (0 ≤ x6_1) = true := decide_eq_true c6
            clear c6
            by_cases c7 : x6_1 < (l0.length : Int)
            · rw [if_pos c7] at H
              have c7b0 : decide (x6_1 < (l0.length : Int)) = true := decide_eq_true c7
              clear c7
              by_cases c8 : x6_1 < (l1.length : Int)
              · rw [if_pos c8] at H
                have c8b0 : decide (x6_1 < (l1.length : Int)) = true := decide_eq_true c8
                clear c8
                by_cases c9 : (rd l0 x6_1) = (rd l1 x6_1)
                · rw [if_pos c9] at H
                  have c9b0 : ((rd l0 x6_1) == (rd l1 x6_1)) = true := beq_iff_eq.mpr c9
                  have c9b1 : ((rd l0 x6_1) != (rd l1 x6_1)) = false := bne_eq_false_iff_eq.mpr c9
                  clear c9
                  have H' := Aside0.mk H
                  clear H
                  have p101 : 0 ≤ (x6_1 : Int) := of_decide_eq_true (by first | (with_reducible assumption) | assumption)
                  have q101 : x6_1 < (l0.length : Int) := of_decide_eq_true (by first | (with_reducible assumption) | assumption)
                  obtain ⟨ad101, e101, hx101_0⟩ := Kd.at_int HR0.out x6_1 p101 q101
                  cases e101
                  replace p101 := eq_true p101
                  replace q101 := eq_true q101
                  have p102 : 0 ≤ (x6_1 : Int) := of_decide_eq_true (by first | (with_reducible assumption) | assumption)
                  have q102 : x6_1 < (l1.length : Int) := of_decide_eq_true (by first | (with_reducible assumption) | assumption)
                  obtain ⟨ad102, e102, hx102_0⟩ := Kd.at_int HR1.out x6_1 p102 q102
                  cases e102
                  replace p102 := eq_true p102
                  replace q102 := eq_true q102
                  go_wp2
                  repeat (go_quiet (fail); try go_wp2)
                  go_roundg k1
                  case measure => have := HK1.out; omega
                  case rel => exact ⟨(wrap64 (x6_1 + 1)), (by first | rfl | (simp; done) | (simp [*]; done)), H', ⟨by have := HK1.out; omega⟩, by repeat (first | exact Drawn0.refl _ | apply Drawn0.step)⟩
                · rw [if_neg c9] at H
                  have c9b0 : ((rd l0 x6_1) == (rd l1 x6_1)) = false := beq_eq_false_iff_ne.mpr c9
                  have c9b1 : ((rd l0 x6_1) != (rd l1 x6_1)) = true := bne_iff_ne.mpr c9
                  have H' := Aside0.mk H
                  clear H
                  have p101 : 0 ≤ (x6_1 : Int) := of_decide_eq_true (by first | (with_reducible assumption) | assumption)
                  have q101 : x6_1 < (l0.length : Int) := of_decide_eq_true (by first | (with_reducible assumption) | assumption)
                  obtain ⟨ad101, e101, hx101_0⟩ := Kd.at_int HR0.out x6_1 p101 q101
                  cases e101
                  replace p101 := eq_true p101
                  replace q101 := eq_true q101
                  have p102 : 0 ≤ (x6_1 : Int) := of_decide_eq_true (by first | (with_reducible assumption) | assumption)
                  have q102 : x6_1 < (l1.length : Int) := of_decide_eq_true (by first | (with_reducible assumption) | assumption)
                  obtain ⟨ad102, e102, hx102_0⟩ := Kd.at_int HR1.out x6_1 p102 q102
                  cases e102
                  replace p102 := eq_true p102
                  replace q102 := eq_true q102
                  go_wp2
                  repeat (go_quiet (fail); try go_wp2)
                  go_meet
                  case rel => exact ⟨_, (x6_1), (by first | rfl | (simp; done) | (simp [*]; done)), H', ⟨by have := HK1.out; first | omega | exact Nat.le_refl _⟩, by repeat (first | exact Drawn0.refl _ | apply Drawn0.step)⟩
              · rw [if_neg c8] at H
                exact absurd H (by simp)
            · rw [if_neg c7] at H
              exact absurd H (by simp)
          · rw [if_neg c6] at H
            exact absurd H (by simp)
        · rw [if_neg c5] at H
          have c5b0 : decide (x6_1 < (ji4)) = false := decide_eq_false c5
          clear c5
          (first | rw [c5b0] | (simp only [i64_w, i32_w]; rw [c5b0]) | skip)
          have H' := Aside0.mk H
          clear H
          go_wp2
          repeat (go_quiet (fail); try go_wp2)
          go_meet
          case rel => exact ⟨_, (x6_1), (by first | rfl | (simp; done) | (simp [*]; done)), H', ⟨by have := HK1.out; first | omega | exact Nat.le_refl _⟩, by repeat (first | exact Drawn0.refl _ | apply Drawn0.step)⟩
  case rest =>
    clear HC3
    try clear c1
    try clear p1
    try clear q1
    try clear hx1
    try clear p2
    try clear c5
    try clear c5b0
    try clear c6
    try clear c6b0
    try clear p6
    try clear c7
    try clear c7b0
    try clear c8
    try clear c8b0
    try clear c9
    try clear c9b0
    try clear c9b1
    try clear hx101_0
    try clear hx102_0
    try clear p101
    try clear p102
    try clear p2
    try clear q101
    try clear q102
    obtain ⟨kq, x6_2, rfl, HA, HJ2, ⟨mc2, rfl⟩⟩ := hcut
    cases kq with
    | zero => exact absurd HA.out (by simp [trim_Ends_int.j1])
    | succ kj2 =>
      have H := HA.out
      clear HA
      simp only [trim_Ends_int.j1] at H
      by_cases c10 : 0 ≤ x6_2
      · rw [if_pos c10] at H
        have c10b0 := eq_true c10
        have c10b1 : decide (0 ≤ x6_2) = true := decide_eq_true c10
        clear c10
        by_cases c11 : x6_2 ≤ (l0.length : Int)
        · rw [if_pos c11] at H
          have c11b0 := eq_true c11
          have c11b1 : decide (x6_2 ≤ (l0.length : Int)) = true := decide_eq_true c11
          clear c11
          have c12b0 := eq_true (of_decide_eq_true (by first | (with_reducible assumption) | assumption) : 0 ≤ x6_2)
          by_cases c13 : x6_2 ≤ (l1.length : Int)
          · rw [if_pos c13] at H
            have c13b0 := eq_true c13
            have c13b1 : decide (x6_2 ≤ (l1.length : Int)) = true := decide_eq_true c13
            clear c13
            have H' := Aside0.mk H
            clear H
            obtain ⟨i014, hi014, _, hsz14, _⟩ := info_parts info3
            obtain ⟨A14, hcut14, hA14, hC14⟩ := print_drop_of (P := Try.prog) (Value.int .i64) 0 22 3 .i64 Try.underlying22 hi014 hsz14 A0 c0 l0 x6_2 (of_decide_eq_true (by first | (with_reducible assumption) | assumption)) (of_decide_eq_true (by first | (with_reducible assumption) | assumption)) HC0.out
            have HR103 := Aside0.mk (Kd.C_of_reads (h1 := fun _ => rfl) (hA14 _ (Kd.reads_of_C HR0.out)))
            have HC103 := Aside0.mk hC14
            clear hA14 hC14 hi014 hsz14
            obtain ⟨i015, hi015, _, hsz15, _⟩ := info_parts info3
            obtain ⟨A15, hcut15, hA15, hC15⟩ := print_drop_of (P := Try.prog) (Value.int .i64) 0 22 3 .i64 Try.underlying22 hi015 hsz15 A1 c1 l1 x6_2 (of_decide_eq_true (by first | (with_reducible assumption) | assumption)) (of_decide_eq_true (by first | (with_reducible assumption) | assumption)) HC1.out
            have HR104 := Aside0.mk (Kd.C_of_reads (h1 := fun _ => rfl) (hA15 _ (Kd.reads_of_C HR1.out)))
            have HC104 := Aside0.mk hC15
            clear hA15 hC15 hi015 hsz15
            go_wp2
            repeat (go_quiet (fail); try go_wp2)
            go_loopg [7] kj2 (fun kq v7 w' => ∃ (x7_2 : Int), v7 = .int .i64 x7_2 ∧ Aside0 (trim_Ends_int.l1 kq (l0.drop (x6_2 : Int).toNat) (l1.drop (x6_2 : Int).toNat) x6_2 x7_2 = some (r1, r2)) ∧ Aside0 (kq ≤ kj2) ∧ Drawn0 w w')
            case atStart => exact ⟨(0), (by first | rfl | (simp; done) | (simp [*]; done)), H', ⟨Nat.le_refl _⟩, by repeat (first | exact Drawn0.refl _ | apply Drawn0.step)⟩
            case round =>
              clear H'
              try clear c1
              try clear p1
              try clear q1
              try clear hx1
              try clear c2
              try clear p2
              try clear c5
              try clear c5b0
              try clear c6
              try clear c6b0
              try clear p6
              try clear c7
              try clear c7b0
              try clear c8
              try clear c8b0
              try clear c9
              try clear c9b0
              try clear c9b1
              try clear c10
              try clear c10b0
              try clear c10b1
              try clear p10
              try clear q10
              try clear hx10
              try clear c11
              try clear c11b0
              try clear c11b1
              try clear c12
              try clear c12b0
              try clear c13
              try clear c13b0
              try clear c13b1
              try clear hx101_0
              try clear hx102_0
              try clear p1
              try clear p101
              try clear p102
              try clear p2
              try clear p6
              try clear q1
              try clear q101
              try clear q102
              obtain ⟨x7_2, rfl, HA, HK2, ⟨m2, rfl⟩⟩ := hrel
              cases gk with
              | zero => exact absurd HA.out (by simp [trim_Ends_int.l1])
              | succ k2 =>
                have H := HA.out
                clear HA
                simp only [trim_Ends_int.l1] at H
                obtain ⟨ji16, hji16⟩ : ∃ j_ : Int, (mn ((l0.drop (x6_2 : Int).toNat).length : Int) ((l1.drop (x6_2 : Int).toNat).length : Int)) = j_ := ⟨_, rfl⟩
                replace H : (if x7_2 < (ji16) then (if 0 ≤ (wrap64 ((wrap64 (((l0.drop (x6_2 : Int).toNat).length : Int) - 1)) - x7_2)) then (if (wrap64 ((wrap64 (((l0.drop (x6_2 : Int).toNat).length : Int) - 1)) - x7_2)) < ((l0.drop (x6_2 : Int).toNat).length : Int) then (if 0 ≤ (wrap64 ((wrap64 (((l1.drop (x6_2 : Int).toNat).length : Int) - 1)) - x7_2)) then (if (wrap64 ((wrap64 (((l1.drop (x6_2 : Int).toNat).length : Int) - 1)) - x7_2)) < ((l1.drop (x6_2 : Int).toNat).length : Int) then (if (rd (l0.drop (x6_2 : Int).toNat) (wrap64 ((wrap64 (((l0.drop (x6_2 : Int).toNat).length : Int) - 1)) - x7_2))) = (rd (l1.drop (x6_2 : Int).toNat) (wrap64 ((wrap64 (((l1.drop (x6_2 : Int).toNat).length : Int) - 1)) - x7_2))) then (trim_Ends_int.l1 k2 (l0.drop (x6_2 : Int).toNat) (l1.drop (x6_2 : Int).toNat) x6_2 (wrap64 (x7_2 + 1))) else (some (x6_2, x7_2))) else (none)) else (none)) else (none)) else (none)) else (some (x6_2, x7_2))) = some (r1, r2) := by first | (rw [hji16] at H; exact H) | (simp only [hji16] at H ⊢; exact H)
                have hji16_ : (if ((l1.drop (x6_2 : Int).toNat).length : Int) < ((l0.drop (x6_2 : Int).toNat).length : Int) then ((l1.drop (x6_2 : Int).toNat).length : Int) else ((l0.drop (x6_2 : Int).toNat).length : Int)) = ji16 := hji16
                (try (have hji16_d := hji16_; simp only [List.length_drop, List.length_take] at hji16_d))
                have hji16_n : (if (l1.drop (x6_2 : Int).toNat).length < (l0.drop (x6_2 : Int).toNat).length then ((l1.drop (x6_2 : Int).toNat).length : Int) else ((l0.drop (x6_2 : Int).toNat).length : Int)) = ji16 := by first | exact_mod_cast hji16_ | (rw [← hji16_]; simp only [Int.ofNat_lt]; done) | (rw [← hji16_]; (repeat' split) <;> omega)
                (try (have hji16_nd := hji16_n; simp only [List.length_drop, List.length_take] at hji16_nd))
                by_cases c17 : x7_2 < (ji16)
                · rw [if_pos c17] at H
                  have c17b0 : decide (x7_2 < (ji16)) = true := decide_eq_true c17
                  clear c17
                  obtain ⟨ji18, hji18⟩ : ∃ j_ : Int, (wrap64 ((wrap64 (((l0.drop (x6_2 : Int).toNat).length : Int) - 1)) - x7_2)) = j_ := ⟨_, rfl⟩
                  replace H : (if 0 ≤ (ji18) then (if (ji18) < ((l0.drop (x6_2 : Int).toNat).length : Int) then (if 0 ≤ (wrap64 ((wrap64 (((l1.drop (x6_2 : Int).toNat).length : Int) - 1)) - x7_2)) then (if (wrap64 ((wrap64 (((l1.drop (x6_2 : Int).toNat).length : Int) - 1)) - x7_2)) < ((l1.drop (x6_2 : Int).toNat).length : Int) then (if (rd (l0.drop (x6_2 : Int).toNat) (ji18)) = (rd (l1.drop (x6_2 : Int).toNat) (wrap64 ((wrap64 (((l1.drop (x6_2 : Int).toNat).length : Int) - 1)) - x7_2))) then (trim_Ends_int.l1 k2 (l0.drop (x6_2 : Int).toNat) (l1.drop (x6_2 : Int).toNat) x6_2 (wrap64 (x7_2 + 1))) else (some (x6_2, x7_2))) else (none)) else (none)) else (none)) else (none)) = some (r1, r2) := by first | (rw [hji18] at H; exact H) | (simp only [hji18] at H ⊢; exact H)
                  have hji18w : (IntKind.i64.wrap ((wrap64 (((l0.drop (x6_2 : Int).toNat).length : Int) - 1)) - x7_2)) = ji18 := (i64_w _).trans hji18
                  (try (have hji18wd := hji18w; simp only [List.length_drop, List.length_take] at hji18wd))
                  by_cases c19 : 0 ≤ (ji18)
                  · rw [if_pos c19] at H
                    have c19b0 : decide (0 ≤ (ji18)) = true := decide_eq_true c19
                    clear c19
                    by_cases c20 : (ji18) < ((l0.drop (x6_2 : Int).toNat).length : Int)
                    · rw [if_pos c20] at H
                      have c20b0 : decide ((ji18) < ((l0.drop (x6_2 : Int).toNat).length : Int)) = true := decide_eq_true c20
                      (try (have c20b0d := c20b0; simp only [List.length_drop, List.length_take] at c20b0d))
                      clear c20
                      obtain ⟨ji21, hji21⟩ : ∃ j_ : Int, (wrap64 ((wrap64 (((l1.drop (x6_2 : Int).toNat).length : Int) - 1)) - x7_2)) = j_ := ⟨_, rfl⟩
                      replace H : (if 0 ≤ (ji21) then (if (ji21) < ((l1.drop (x6_2 : Int).toNat).length : Int) then (if (rd (l0.drop (x6_2 : Int).toNat) (ji18)) = (rd (l1.drop (x6_2 : Int).toNat) (ji21)) then (trim_Ends_int.l1 k2 (l0.drop (x6_2 : Int).toNat) (l1.drop (x6_2 : Int).toNat) x6_2 (wrap64 (x7_2 + 1))) else (some (x6_2, x7_2))) else (none)) else (none)) = some (r1, r2) := by first | (rw [hji21] at H; exact H) | (simp only [hji21] at H ⊢; exact H)
                      have hji21w : (IntKind.i64.wrap ((wrap64 (((l1.drop (x6_2 : Int).toNat).length : Int) - 1)) - x7_2)) = ji21 := (i64_w _).trans hji21
                      (try (have hji21wd := hji21w; simp only [List.length_drop, List.length_take] at hji21wd))
                      by_cases c22 : 0 ≤ (ji21)
                      · rw [if_pos c22] at H
                        have c22b0 : decide (0 ≤ (ji21)) = true := decide_eq_true c22
                        clear c22
                        by_cases c23 : (ji21) < ((l1.drop (x6_2 : Int).toNat).length : Int)
                        · rw [if_pos c23] at H
                          have c23b0 : decide ((ji21) < ((l1.drop (x6_2 : Int).toNat).length : Int)) = true := decide_eq_true c23
                          (try (have c23b0d := c23b0; simp only [List.length_drop, List.length_take] at c23b0d))
                          clear c23
                          by_cases c24 : (rd (l0.drop (x6_2 : Int).toNat) (ji18)) = (rd (l1.drop (x6_2 : Int).toNat) (ji21))
                          · rw [if_pos c24] at H
                            have c24b0 : ((rd (l0.drop (x6_2 : Int).toNat) (ji18)) == (rd (l1.drop (x6_2 : Int).toNat) (ji21))) = true := beq_iff_eq.mpr c24
                            have c24b1 : ((rd (l0.drop (x6_2 : Int).toNat) (ji18)) != (rd (l1.drop (x6_2 : Int).toNat) (ji21))) = false := bne_eq_false_iff_eq.mpr c24
                            clear c24
                            have H' := Aside0.mk H
                            clear H
                            have p105 : 0 ≤ ((ji18) : Int) := of_decide_eq_true (by first | (with_reducible assumption) | assumption)
                            have q105 : (ji18) < ((l0.drop (x6_2 : Int).toNat).length : Int) := of_decide_eq_true (by first | (with_reducible assumption) | assumption)
                            obtain ⟨ad105, e105, hx105_0⟩ := Kd.at_int HR103.out (ji18) p105 q105
                            cases e105
                            replace p105 := eq_true p105
                            replace q105 := eq_true q105
                            (try (have q105d := q105; simp only [List.length_drop, List.length_take] at q105d))
                            have p106 : 0 ≤ ((ji21) : Int) := of_decide_eq_true (by first | (with_reducible assumption) | assumption)
                            have q106 : (ji21) < ((l1.drop (x6_2 : Int).toNat).length : Int) := of_decide_eq_true (by first | (with_reducible assumption) | assumption)
                            obtain ⟨ad106, e106, hx106_0⟩ := Kd.at_int HR104.out (ji21) p106 q106
                            cases e106
                            replace p106 := eq_true p106
                            replace q106 := eq_true q106
                            (try (have q106d := q106; simp only [List.length_drop, List.length_take] at q106d))
                            go_wp2
                            repeat (go_quiet (fail); try go_wp2)
                            go_roundg k2
                            case measure => have := HJ2.out; have := HK2.out; omega
                            case rel => exact ⟨(wrap64 (x7_2 + 1)), (by first | rfl | (simp; done) | (simp [*]; done)), H', ⟨by have := HJ2.out; have := HK2.out; omega⟩, by repeat (first | exact Drawn0.refl _ | apply Drawn0.step)⟩
                          · rw [if_neg c24] at H
                            have c24b0 : ((rd (l0.drop (x6_2 : Int).toNat) (ji18)) == (rd (l1.drop (x6_2 : Int).toNat) (ji21))) = false := beq_eq_false_iff_ne.mpr c24
                            have c24b1 : ((rd (l0.drop (x6_2 : Int).toNat) (ji18)) != (rd (l1.drop (x6_2 : Int).toNat) (ji21))) = true := bne_iff_ne.mpr c24
                            simp only [Option.some.injEq, Prod.mk.injEq] at H
                            obtain ⟨rfl, rfl⟩ := H
                            have p105 : 0 ≤ ((ji18) : Int) := of_decide_eq_true (by first | (with_reducible assumption) | assumption)
                            have q105 : (ji18) < ((l0.drop (x6_2 : Int).toNat).length : Int) := of_decide_eq_true (by first | (with_reducible assumption) | assumption)
                            obtain ⟨ad105, e105, hx105_0⟩ := Kd.at_int HR103.out (ji18) p105 q105
                            cases e105
                            replace p105 := eq_true p105
                            replace q105 := eq_true q105
                            (try (have q105d := q105; simp only [List.length_drop, List.length_take] at q105d))
                            have p106 : 0 ≤ ((ji21) : Int) := of_decide_eq_true (by first | (with_reducible assumption) | assumption)
                            have q106 : (ji21) < ((l1.drop (x6_2 : Int).toNat).length : Int) := of_decide_eq_true (by first | (with_reducible assumption) | assumption)
                            obtain ⟨ad106, e106, hx106_0⟩ := Kd.at_int HR104.out (ji21) p106 q106
                            cases e106
                            replace p106 := eq_true p106
                            replace q106 := eq_true q106
                            (try (have q106d := q106; simp only [List.length_drop, List.length_take] at q106d))
                            go_wp2
                            repeat (go_quiet (fail); try go_wp2)
                            go_ret2
                            exact ⟨by first | rfl | (simp; done) | (simp only [← hji16, ← hji18, ← hji21] <;> (first | rfl | simp)) | (simp [*]; done), by repeat (first | exact Drawn0.refl _ | apply Drawn0.step)⟩
                        · rw [if_neg c23] at H
                          exact absurd H (by simp)
                      · rw [if_neg c22] at H
                        exact absurd H (by simp)
                    · rw [if_neg c20] at H
                      exact absurd H (by simp)
                  · rw [if_neg c19] at H
                    exact absurd H (by simp)
                · rw [if_neg c17] at H
                  have c17b0 : decide (x7_2 < (ji16)) = false := decide_eq_false c17
                  clear c17
                  simp only [Option.some.injEq, Prod.mk.injEq] at H
                  obtain ⟨rfl, rfl⟩ := H
                  go_wp2
                  repeat (go_quiet (fail); try go_wp2)
                  go_ret2
                  exact ⟨by first | rfl | (simp; done) | (simp only [← hji16] <;> (first | rfl | simp)) | (simp [*]; done), by repeat (first | exact Drawn0.refl _ | apply Drawn0.step)⟩
          · rw [if_neg c13] at H
            exact absurd H (by simp)
        · rw [if_neg c11] at H
          exact absurd H (by simp)
      · rw [if_neg c10] at H
        exact absurd H (by simp)

end Go.Proofs.Ytadafplbgophfaa.PA
