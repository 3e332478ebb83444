-- Written by a program of this seat out of the translation. Not trusted: Lean checks it.
import Derived.Test.YtadafplbgophfaaPA0
import Derived.Test.YtadafplbgophfaaPAf28
import Derived.Test.YtadafplbgophfaaPAf33
import Derived.Test.YtadafplbgophfaaPAf31
import Derived.Test.YtadafplbgophfaaPAf32
namespace Go.Proofs.Ytadafplbgophfaa.PA
open Go.RowKit Go.Proofs.YtadafplbgophfaaW.PrintWords Go.Proofs.YtadafplbgophfaaW.PrintLast Go.Proofs.YtadafplbgophfaaW.PrintMore
attribute [local go_sem] max2_int min2_int max_two min_two max_three min_three max_four min_four   -- for this text's walks alone
set_option linter.unusedVariables false
set_option linter.unusedSimpArgs false

/-! ### tripartitelaw03_LcsRights: function 8 -/
def tripartitelaw03_LcsRights.f (k : Nat) (l0 : List Int) (l1 : List Int) (l2 : List (S37)) : Option (Bool) := if 0 ≤ (mn (l0.length : Int) 200) then (if (mn (l0.length : Int) 200) ≤ (l0.length : Int) then ((some (l0.take ((mn (l0.length : Int) 200) : Int).toNat : List Int)).bind fun y101 => (if 0 ≤ (mn (l1.length : Int) 200) then (if (mn (l1.length : Int) 200) ≤ (l1.length : Int) then ((some (l1.take ((mn (l1.length : Int) 200) : Int).toNat : List Int)).bind fun y105 => (if 0 ≤ (mn (l2.length : Int) 200) then (if (mn (l2.length : Int) 200) ≤ (l2.length : Int) then ((some (l2.take ((mn (l2.length : Int) 200) : Int).toNat : List (S37))).bind fun y109 => ((tripartitelaw03_told.f k).bind fun t113 => (if t113 = true then ((tripartitelaw03_To.f k y109).bind fun t114 => ((lcs_Right.f k y101 y105 t114).bind fun t117 => ((tripartiteref03_Right.f k y101 y105 y109).bind fun t118 => (some (t117 == t118))))) else (some false)))) else (none)) else (none))) else (none)) else (none))) else (none)) else (none)
theorem tripartitelaw03_LcsRights.mono : ∀ a0 a1 a2 k, LeO (tripartitelaw03_LcsRights.f k a0 a1 a2) (tripartitelaw03_LcsRights.f (k + 1) a0 a1 a2) := by
  intro a0 a1 a2 k
  unfold tripartitelaw03_LcsRights.f
  repeat' first
      | (with_reducible exact lcs_Right.mono _ _ _ _)
      | (with_reducible exact tripartitelaw03_To.mono _ _)
      | (with_reducible exact tripartitelaw03_told.mono _)
      | (with_reducible exact tripartiteref03_Right.mono _ _ _ _)
      | (with_reducible exact LeO.refl _)
      | (with_reducible exact LeO.none _)
      | (with_reducible refine LeO.ite ?_ ?_)
      | (with_reducible refine LeO.bind ?_ (fun _ => ?_))
      | exact lcs_Right.mono _ _ _ _
      | exact tripartitelaw03_To.mono _ _
      | exact tripartitelaw03_told.mono _
      | exact tripartiteref03_Right.mono _ _ _ _
      | exact LeO.none _
      | refine LeO.ite ?_ ?_
      | refine LeO.bind ?_ (fun _ => ?_)
set_option maxHeartbeats 8000000 in
set_option maxRecDepth 100000 in
theorem tripartitelaw03_LcsRights.calls (k : Nat) (A0 : Option Addr) (c0 : Nat) (l0 : List Int) (A1 : Option Addr) (c1 : Nat) (l1 : List Int) (A2 : Option Addr) (c2 : Nat) (l2 : List (S37)) (r : Bool) (w : World) (hr0 : Kd.C (Kd.int .i64) w A0 l0.length l0) (hc0 : l0.length ≤ c0) (hr1 : Kd.C (Kd.int .i64) w A1 l1.length l1) (hc1 : l1.length ≤ c1) (hr2 : Kd.C k37 w A2 l2.length l2) (hc2 : l2.length ≤ c2) (h : tripartitelaw03_LcsRights.f k l0 l1 l2 = some r) :
    Calls Try.prog 8 #[.slice A0 l0.length c0, .slice A1 l1.length c1, .slice A2 l2.length c2] w fun e w' => e = .returned (.bool r) ∧ Below w.heap.size w w' := by
  have HR0 := Aside0.mk hr0
  have HC0 := Aside0.mk hc0
  clear hr0 hc0
  have HR1 := Aside0.mk hr1
  have HC1 := Aside0.mk hc1
  clear hr1 hc1
  have HR2 := Aside0.mk hr2
  have HC2 := Aside0.mk hc2
  clear hr2 hc2
  have HB := Aside0.mk (Below.refl w.heap.size w)
  have H : (if 0 ≤ (mn (l0.length : Int) 200) then (if (mn (l0.length : Int) 200) ≤ (l0.length : Int) then ((some (l0.take ((mn (l0.length : Int) 200) : Int).toNat : List Int)).bind fun y101 => (if 0 ≤ (mn (l1.length : Int) 200) then (if (mn (l1.length : Int) 200) ≤ (l1.length : Int) then ((some (l1.take ((mn (l1.length : Int) 200) : Int).toNat : List Int)).bind fun y105 => (if 0 ≤ (mn (l2.length : Int) 200) then (if (mn (l2.length : Int) 200) ≤ (l2.length : Int) then ((some (l2.take ((mn (l2.length : Int) 200) : Int).toNat : List (S37))).bind fun y109 => ((tripartitelaw03_told.f k).bind fun t113 => (if t113 = true then ((tripartitelaw03_To.f k y109).bind fun t114 => ((lcs_Right.f k y101 y105 t114).bind fun t117 => ((tripartiteref03_Right.f k y101 y105 y109).bind fun t118 => (some (t117 == t118))))) else (some false)))) else (none)) else (none))) else (none)) else (none))) else (none)) else (none)) = some r := h
  clear h
  obtain ⟨ji4, hji4⟩ : ∃ j_ : Int, (mn (l0.length : Int) 200) = j_ := ⟨_, rfl⟩
  replace H : (if 0 ≤ (ji4) then (if (ji4) ≤ (l0.length : Int) then ((some (l0.take ((ji4) : Int).toNat : List Int)).bind fun y101 => (if 0 ≤ (mn (l1.length : Int) 200) then (if (mn (l1.length : Int) 200) ≤ (l1.length : Int) then ((some (l1.take ((mn (l1.length : Int) 200) : Int).toNat : List Int)).bind fun y105 => (if 0 ≤ (mn (l2.length : Int) 200) then (if (mn (l2.length : Int) 200) ≤ (l2.length : Int) then ((some (l2.take ((mn (l2.length : Int) 200) : Int).toNat : List (S37))).bind fun y109 => ((tripartitelaw03_told.f k).bind fun t113 => (if t113 = true then ((tripartitelaw03_To.f k y109).bind fun t114 => ((lcs_Right.f k y101 y105 t114).bind fun t117 => ((tripartiteref03_Right.f k y101 y105 y109).bind fun t118 => (some (t117 == t118))))) else (some false)))) else (none)) else (none))) else (none)) else (none))) else (none)) else (none)) = some r := by first | (rw [hji4] at H; exact H) | (simp only [hji4] at H ⊢; exact H)
  (try (have hji4h : ji4 ≤ 200 := by (rw [← hji4]; unfold mn; (repeat' split) <;> omega)))
  (try (have hji4g : ji4 ≤ 64 := by omega))
  (try (have hji4l : 0 ≤ ji4 := by (rw [← hji4]; unfold mn; (repeat' split) <;> omega)))
  (try (have hji4m : 0 ≤ ji4 := by omega))
  have hji4_ : (if 200 < (l0.length : Int) then 200 else (l0.length : Int)) = ji4 := hji4
  have hji4_n : (if 200 < l0.length then 200 else (l0.length : Int)) = ji4 := by first | exact_mod_cast hji4_ | (rw [← hji4_]; simp only [Int.ofNat_lt]; done) | (rw [← hji4_]; (repeat' split) <;> omega)
  by_cases c5 : 0 ≤ (ji4)
  · rw [if_pos c5] at H
    have c5b0 := eq_true c5
    have c5b1 : decide (0 ≤ (ji4)) = true := decide_eq_true c5
    clear c5
    by_cases c6 : (ji4) ≤ (l0.length : Int)
    · rw [if_pos c6] at H
      have c6b0 := eq_true c6
      have c6b1 : decide ((ji4) ≤ (l0.length : Int)) = true := decide_eq_true c6
      clear c6
      obtain ⟨y101, hy101⟩ : ∃ y_ : List Int, y_ = (l0.take ((ji4) : Int).toNat) := ⟨_, rfl⟩
      replace H : (if 0 ≤ (mn (l1.length : Int) 200) then (if (mn (l1.length : Int) 200) ≤ (l1.length : Int) then ((some (l1.take ((mn (l1.length : Int) 200) : Int).toNat : List Int)).bind fun y105 => (if 0 ≤ (mn (l2.length : Int) 200) then (if (mn (l2.length : Int) 200) ≤ (l2.length : Int) then ((some (l2.take ((mn (l2.length : Int) 200) : Int).toNat : List (S37))).bind fun y109 => ((tripartitelaw03_told.f k).bind fun t113 => (if t113 = true then ((tripartitelaw03_To.f k y109).bind fun t114 => ((lcs_Right.f k y101 y105 t114).bind fun t117 => ((tripartiteref03_Right.f k y101 y105 y109).bind fun t118 => (some (t117 == t118))))) else (some false)))) else (none)) else (none))) else (none)) else (none)) = some r := by first | (rw [hy101]; with_reducible exact H) | (have H2_ := (Option.bind_some _ _).symm.trans H; rw [hy101]; with_reducible exact H2_) | (have H2_ := (Option.bind_some _ _).symm.trans H; with_reducible exact H2_) | with_reducible exact H | (rw [hy101]; exact H) | exact H
      have Ny101 := Aside0.mk hy101
      clear hy101
      obtain ⟨ji7, hji7⟩ : ∃ j_ : Int, (mn (l1.length : Int) 200) = j_ := ⟨_, rfl⟩
      replace H : (if 0 ≤ (ji7) then (if (ji7) ≤ (l1.length : Int) then ((some (l1.take ((ji7) : Int).toNat : List Int)).bind fun y105 => (if 0 ≤ (mn (l2.length : Int) 200) then (if (mn (l2.length : Int) 200) ≤ (l2.length : Int) then ((some (l2.take ((mn (l2.length : Int) 200) : Int).toNat : List (S37))).bind fun y109 => ((tripartitelaw03_told.f k).bind fun t113 => (if t113 = true then ((tripartitelaw03_To.f k y109).bind fun t114 => ((lcs_Right.f k y101 y105 t114).bind fun t117 => ((tripartiteref03_Right.f k y101 y105 y109).bind fun t118 => (some (t117 == t118))))) else (some false)))) else (none)) else (none))) else (none)) else (none)) = some r := by first | (rw [hji7] at H; exact H) | (simp only [hji7] at H ⊢; exact H)
      (try (have hji7h : ji7 ≤ 200 := by (rw [← hji7]; unfold mn; (repeat' split) <;> omega)))
      (try (have hji7g : ji7 ≤ 64 := by omega))
      (try (have hji7l : 0 ≤ ji7 := by (rw [← hji7]; unfold mn; (repeat' split) <;> omega)))
      (try (have hji7m : 0 ≤ ji7 := by omega))
      have hji7_ : (if 200 < (l1.length : Int) then 200 else (l1.length : Int)) = ji7 := hji7
      have hji7_n : (if 200 < l1.length then 200 else (l1.length : Int)) = ji7 := by first | exact_mod_cast hji7_ | (rw [← hji7_]; simp only [Int.ofNat_lt]; done) | (rw [← hji7_]; (repeat' split) <;> omega)
      by_cases c8 : 0 ≤ (ji7)
      · rw [if_pos c8] at H
        have c8b0 := eq_true c8
        have c8b1 : decide (0 ≤ (ji7)) = true := decide_eq_true c8
        clear c8
        by_cases c9 : (ji7) ≤ (l1.length : Int)
        · rw [if_pos c9] at H
          have c9b0 := eq_true c9
          have c9b1 : decide ((ji7) ≤ (l1.length : Int)) = true := decide_eq_true c9
          clear c9
          obtain ⟨y105, hy105⟩ : ∃ y_ : List Int, y_ = (l1.take ((ji7) : Int).toNat) := ⟨_, rfl⟩
          replace H : (if 0 ≤ (mn (l2.length : Int) 200) then (if (mn (l2.length : Int) 200) ≤ (l2.length : Int) then ((some (l2.take ((mn (l2.length : Int) 200) : Int).toNat : List (S37))).bind fun y109 => ((tripartitelaw03_told.f k).bind fun t113 => (if t113 = true then ((tripartitelaw03_To.f k y109).bind fun t114 => ((lcs_Right.f k y101 y105 t114).bind fun t117 => ((tripartiteref03_Right.f k y101 y105 y109).bind fun t118 => (some (t117 == t118))))) else (some false)))) else (none)) else (none)) = some r := by first | (rw [hy105]; with_reducible exact H) | (have H2_ := (Option.bind_some _ _).symm.trans H; rw [hy105]; with_reducible exact H2_) | (have H2_ := (Option.bind_some _ _).symm.trans H; with_reducible exact H2_) | with_reducible exact H | (rw [hy105]; exact H) | exact H
          have Ny105 := Aside0.mk hy105
          clear hy105
          obtain ⟨ji10, hji10⟩ : ∃ j_ : Int, (mn (l2.length : Int) 200) = j_ := ⟨_, rfl⟩
          replace H : (if 0 ≤ (ji10) then (if (ji10) ≤ (l2.length : Int) then ((some (l2.take ((ji10) : Int).toNat : List (S37))).bind fun y109 => ((tripartitelaw03_told.f k).bind fun t113 => (if t113 = true then ((tripartitelaw03_To.f k y109).bind fun t114 => ((lcs_Right.f k y101 y105 t114).bind fun t117 => ((tripartiteref03_Right.f k y101 y105 y109).bind fun t118 => (some (t117 == t118))))) else (some false)))) else (none)) else (none)) = some r := by first | (rw [hji10] at H; exact H) | (simp only [hji10] at H ⊢; exact H)
          (try (have hji10h : ji10 ≤ 200 := by (rw [← hji10]; unfold mn; (repeat' split) <;> omega)))
          (try (have hji10g : ji10 ≤ 64 := by omega))
          (try (have hji10l : 0 ≤ ji10 := by (rw [← hji10]; unfold mn; (repeat' split) <;> omega)))
          (try (have hji10m : 0 ≤ ji10 := by omega))
          have hji10_ : (if 200 < (l2.length : Int) then 200 else (l2.length : Int)) = ji10 := hji10
          have hji10_n : (if 200 < l2.length then 200 else (l2.length : Int)) = ji10 := by first | exact_mod_cast hji10_ | (rw [← hji10_]; simp only [Int.ofNat_lt]; done) | (rw [← hji10_]; (repeat' split) <;> omega)
          by_cases c11 : 0 ≤ (ji10)
          · rw [if_pos c11] at H
            have c11b0 := eq_true c11
            have c11b1 : decide (0 ≤ (ji10)) = true := decide_eq_true c11
            clear c11
            by_cases c12 : (ji10) ≤ (l2.length : Int)
            · rw [if_pos c12] at H
              have c12b0 := eq_true c12
              have c12b1 : decide ((ji10) ≤ (l2.length : Int)) = true := decide_eq_true c12
              clear c12
              obtain ⟨y109, hy109⟩ : ∃ y_ : List (S37), y_ = (l2.take ((ji10) : Int).toNat) := ⟨_, rfl⟩
              replace H : ((tripartitelaw03_told.f k).bind fun t113 => (if t113 = true then ((tripartitelaw03_To.f k y109).bind fun t114 => ((lcs_Right.f k y101 y105 t114).bind fun t117 => ((tripartiteref03_Right.f k y101 y105 y109).bind fun t118 => (some (t117 == t118))))) else (some false))) = some r := by first | (rw [hy109]; with_reducible exact H) | (have H2_ := (Option.bind_some _ _).symm.trans H; rw [hy109]; with_reducible exact H2_) | (have H2_ := (Option.bind_some _ _).symm.trans H; with_reducible exact H2_) | with_reducible exact H | (rw [hy109]; exact H) | exact H
              have Ny109 := Aside0.mk hy109
              clear hy109
              replace H := Option.bind_eq_some_iff.mp H
              obtain ⟨t113, A130, H⟩ := H
              replace H : (if t113 = true then ((tripartitelaw03_To.f k y109).bind fun t114 => ((lcs_Right.f k y101 y105 t114).bind fun t117 => ((tripartiteref03_Right.f k y101 y105 y109).bind fun t118 => (some (t117 == t118))))) else (some false)) = some r := H
              have A13 := Aside0.mk A130
              clear A130
              by_cases c14 : t113 = true
              · subst c14
                have H1 : ((tripartitelaw03_To.f k y109).bind fun t114 => ((lcs_Right.f k y101 y105 t114).bind fun t117 => ((tripartiteref03_Right.f k y101 y105 y109).bind fun t118 => (some (t117 == t118))))) = some r := by rw [if_pos rfl] at H; exact H
                clear H
                have H := H1
                clear H1
                replace H := Option.bind_eq_some_iff.mp H
                obtain ⟨t114, A150, H⟩ := H
                replace H : ((lcs_Right.f k y101 y105 t114).bind fun t117 => ((tripartiteref03_Right.f k y101 y105 y109).bind fun t118 => (some (t117 == t118)))) = some r := H
                have A15 := Aside0.mk A150
                clear A150
                replace H := Option.bind_eq_some_iff.mp H
                obtain ⟨t117, A160, H⟩ := H
                replace H : ((tripartiteref03_Right.f k y101 y105 y109).bind fun t118 => (some (t117 == t118))) = some r := H
                have A16 := Aside0.mk A160
                clear A160
                replace H := Option.bind_eq_some_iff.mp H
                obtain ⟨t118, A170, H⟩ := H
                replace H : (some (t117 == t118)) = some r := H
                have A17 := Aside0.mk A170
                clear A170
                obtain rfl := Option.some.inj H
                have q18 : ((ji4) : Int) ≤ ((l0.length : Int) : Int) := of_decide_eq_true (by first | (with_reducible assumption) | assumption)
                obtain ⟨i018, hi018, _, hsz18, _⟩ := info_parts info3
                have hroom18 : l0.length ≤ c0 := HC0.out
                have hC18 : Kd.C (Kd.int .i64) _ A0 l0.length l0 := HR0.out
                have hcut18 := cut_to (P := Try.prog) 22 3 .i64 Try.underlying22 hi018 A0 l0.length c0 (ji4) (of_decide_eq_true (by first | (with_reducible assumption) | assumption)) q18 hroom18
                have hr18 := Kd.C_take (m := ((ji4) : Int).toNat) hC18 (by omega)
                have hy18 : y101.length = ((ji4) : Int).toNat := (by rw [Ny101.out, List.length_take]; omega)
                rw [← Ny101.out] at hr18
                rw [← hy18] at hcut18
                have HR104 := Aside0.mk hr18
                have HC104 := Aside0.mk (show y101.length ≤ c0 from by omega)
                clear hr18 hC18 hroom18 hi018 hsz18
                have KY18 := Aside0.mk hy18
                clear hy18
                replace q18 := eq_true q18
                have q19 : ((ji7) : Int) ≤ ((l1.length : Int) : Int) := of_decide_eq_true (by first | (with_reducible assumption) | assumption)
                obtain ⟨i019, hi019, _, hsz19, _⟩ := info_parts info3
                have hroom19 : l1.length ≤ c1 := HC1.out
                have hC19 : Kd.C (Kd.int .i64) _ A1 l1.length l1 := HR1.out
                have hcut19 := cut_to (P := Try.prog) 22 3 .i64 Try.underlying22 hi019 A1 l1.length c1 (ji7) (of_decide_eq_true (by first | (with_reducible assumption) | assumption)) q19 hroom19
                have hr19 := Kd.C_take (m := ((ji7) : Int).toNat) hC19 (by omega)
                have hy19 : y105.length = ((ji7) : Int).toNat := (by rw [Ny105.out, List.length_take]; omega)
                rw [← Ny105.out] at hr19
                rw [← hy19] at hcut19
                have HR108 := Aside0.mk hr19
                have HC108 := Aside0.mk (show y105.length ≤ c1 from by omega)
                clear hr19 hC19 hroom19 hi019 hsz19
                have KY19 := Aside0.mk hy19
                clear hy19
                replace q19 := eq_true q19
                have q20 : ((ji10) : Int) ≤ ((l2.length : Int) : Int) := of_decide_eq_true (by first | (with_reducible assumption) | assumption)
                obtain ⟨i020, hi020, _, hsz20, _⟩ := info_parts info37
                have hroom20 : l2.length ≤ c2 := HC2.out
                have hC20 : Kd.C k37 _ A2 l2.length l2 := HR2.out
                have hcut20 := cut_to (P := Try.prog) 30 37 .i64 Try.underlying30 hi020 A2 l2.length c2 (ji10) (of_decide_eq_true (by first | (with_reducible assumption) | assumption)) q20 hroom20
                have hr20 := Kd.C_take (m := ((ji10) : Int).toNat) hC20 (by omega)
                have hy20 : y109.length = ((ji10) : Int).toNat := (by rw [Ny109.out, List.length_take]; omega)
                rw [← Ny109.out] at hr20
                rw [← hy20] at hcut20
                have HR112 := Aside0.mk hr20
                have HC112 := Aside0.mk (show y109.length ≤ c2 from by omega)
                clear hr20 hC20 hroom20 hi020 hsz20
                have KY20 := Aside0.mk hy20
                clear hy20
                replace q20 := eq_true q20
                go_enter Try.func8, Try.ntmps8
                go_wp2_with (first | (go_at_call 28; (with_reducible refine (tripartitelaw03_told.calls k  true _ A13.out).mono ?_); rintro e w21 ⟨rfl, hb⟩; have n0_ := Aside0.mk (below_step (by repeat (first | (with_reducible first | exact HB.out | apply below_alloc | apply pw_below_drewN | apply below_drew1) | exact HB.out)) hb); clear HB; have HB := n0_; clear n0_; (try clear hb); (try clear hb2); (try clear hk); (try clear hi)) | (go_at_call 32; (with_reducible refine (tripartitelaw03_To.calls k _ _ y109 t114 _ ?side1 ?side2 A15.out).mono ?_); (case side1 => repeat (first | exact (Kd.C_below HR112.out HB.out) | (with_reducible refine Kd.C_alloc ?_ _) | (with_reducible refine Kd.C_drewN ?_ _) | (with_reducible refine Kd.C_drew ?_))); (case side2 => exact HC112.out); rintro e w22 ⟨v115, rfl, ho0, hb⟩; have n0_ := Aside0.mk (Kd.R_lower ho0 (below_size (by repeat (first | (with_reducible first | exact HB.out | apply below_alloc | apply pw_below_drewN | apply below_drew1) | exact HB.out)))); have n1_ := Aside0.mk (below_step (by repeat (first | (with_reducible first | exact HB.out | apply below_alloc | apply pw_below_drewN | apply below_drew1) | exact HB.out)) hb); clear HB; have HO116 := n0_; have HB := n1_; clear n0_ n1_; (try clear hb); (try clear hb2); (try clear hk); (try clear hi); (try clear ho0); obtain ⟨Ao23, co23, eo23⟩ := Kd.R_slice HO116.out; subst eo23) | (go_at_call 31; (with_reducible refine (lcs_Right.calls k _ _ y101 _ _ y105 _ _ t114 t117 _ ?side1 ?side2 ?side3 ?side4 ?side5 ?side6 A16.out).mono ?_); (case side1 => repeat (first | exact (Kd.C_below HR104.out HB.out) | (with_reducible refine Kd.C_alloc ?_ _) | (with_reducible refine Kd.C_drewN ?_ _) | (with_reducible refine Kd.C_drew ?_))); (case side2 => exact HC104.out); (case side3 => repeat (first | exact (Kd.C_below HR108.out HB.out) | (with_reducible refine Kd.C_alloc ?_ _) | (with_reducible refine Kd.C_drewN ?_ _) | (with_reducible refine Kd.C_drew ?_))); (case side4 => exact HC108.out); (case side5 => repeat (first | exact (Kd.R_reads' HO116.out).2.2 | (with_reducible refine Kd.C_alloc ?_ _) | (with_reducible refine Kd.C_drewN ?_ _) | (with_reducible refine Kd.C_drew ?_))); (case side6 => exact (Kd.R_reads' HO116.out).2.1); rintro e w24 ⟨rfl, hb⟩; have n0_ := Aside0.mk (Kd.R_below (by (with_reducible repeat (first | apply Kd.R_alloc | apply Kd.R_drewN | apply Kd.R_drew)); exact HO116.out) hb); have n1_ := Aside0.mk (below_step (by repeat (first | (with_reducible first | exact HB.out | apply below_alloc | apply pw_below_drewN | apply below_drew1) | exact HB.out)) hb); clear HO116; clear HB; have HO116 := n0_; have HB := n1_; clear n0_ n1_; (try clear hb); (try clear hb2); (try clear hk); (try clear hi)) | (go_at_call 33; (with_reducible refine (tripartiteref03_Right.calls k _ _ y101 _ _ y105 _ _ y109 t118 _ ?side1 ?side2 ?side3 ?side4 ?side5 ?side6 A17.out).mono ?_); (case side1 => repeat (first | exact (Kd.C_below HR104.out HB.out) | (with_reducible refine Kd.C_alloc ?_ _) | (with_reducible refine Kd.C_drewN ?_ _) | (with_reducible refine Kd.C_drew ?_))); (case side2 => exact HC104.out); (case side3 => repeat (first | exact (Kd.C_below HR108.out HB.out) | (with_reducible refine Kd.C_alloc ?_ _) | (with_reducible refine Kd.C_drewN ?_ _) | (with_reducible refine Kd.C_drew ?_))); (case side4 => exact HC108.out); (case side5 => repeat (first | exact (Kd.C_below HR112.out HB.out) | (with_reducible refine Kd.C_alloc ?_ _) | (with_reducible refine Kd.C_drewN ?_ _) | (with_reducible refine Kd.C_drew ?_))); (case side6 => exact HC112.out); rintro e w25 ⟨rfl, hb⟩; have n0_ := Aside0.mk (Kd.R_below (by (with_reducible repeat (first | apply Kd.R_alloc | apply Kd.R_drewN | apply Kd.R_drew)); exact HO116.out) hb); have n1_ := Aside0.mk (below_step (by repeat (first | (with_reducible first | exact HB.out | apply below_alloc | apply pw_below_drewN | apply below_drew1) | exact HB.out)) hb); clear HO116; clear HB; have HO116 := n0_; have HB := n1_; clear n0_ n1_; (try clear hb); (try clear hb2); (try clear hk); (try clear hi)))
                repeat (go_quiet (first | (go_at_call 28; (with_reducible refine (tripartitelaw03_told.calls k  true _ A13.out).mono ?_); rintro e w21 ⟨rfl, hb⟩; have n0_ := Aside0.mk (below_step (by repeat (first | (with_reducible first | exact HB.out | apply below_alloc | apply pw_below_drewN | apply below_drew1) | exact HB.out)) hb); clear HB; have HB := n0_; clear n0_; (try clear hb); (try clear hb2); (try clear hk); (try clear hi)) | (go_at_call 32; (with_reducible refine (tripartitelaw03_To.calls k _ _ y109 t114 _ ?side1 ?side2 A15.out).mono ?_); (case side1 => repeat (first | exact (Kd.C_below HR112.out HB.out) | (with_reducible refine Kd.C_alloc ?_ _) | (with_reducible refine Kd.C_drewN ?_ _) | (with_reducible refine Kd.C_drew ?_))); (case side2 => exact HC112.out); rintro e w22 ⟨v115, rfl, ho0, hb⟩; have n0_ := Aside0.mk (Kd.R_lower ho0 (below_size (by repeat (first | (with_reducible first | exact HB.out | apply below_alloc | apply pw_below_drewN | apply below_drew1) | exact HB.out)))); have n1_ := Aside0.mk (below_step (by repeat (first | (with_reducible first | exact HB.out | apply below_alloc | apply pw_below_drewN | apply below_drew1) | exact HB.out)) hb); clear HB; have HO116 := n0_; have HB := n1_; clear n0_ n1_; (try clear hb); (try clear hb2); (try clear hk); (try clear hi); (try clear ho0); obtain ⟨Ao23, co23, eo23⟩ := Kd.R_slice HO116.out; subst eo23) | (go_at_call 31; (with_reducible refine (lcs_Right.calls k _ _ y101 _ _ y105 _ _ t114 t117 _ ?side1 ?side2 ?side3 ?side4 ?side5 ?side6 A16.out).mono ?_); (case side1 => repeat (first | exact (Kd.C_below HR104.out HB.out) | (with_reducible refine Kd.C_alloc ?_ _) | (with_reducible refine Kd.C_drewN ?_ _) | (with_reducible refine Kd.C_drew ?_))); (case side2 => exact HC104.out); (case side3 => repeat (first | exact (Kd.C_below HR108.out HB.out) | (with_reducible refine Kd.C_alloc ?_ _) | (with_reducible refine Kd.C_drewN ?_ _) | (with_reducible refine Kd.C_drew ?_))); (case side4 => exact HC108.out); (case side5 => repeat (first | exact (Kd.R_reads' HO116.out).2.2 | (with_reducible refine Kd.C_alloc ?_ _) | (with_reducible refine Kd.C_drewN ?_ _) | (with_reducible refine Kd.C_drew ?_))); (case side6 => exact (Kd.R_reads' HO116.out).2.1); rintro e w24 ⟨rfl, hb⟩; have n0_ := Aside0.mk (Kd.R_below (by (with_reducible repeat (first | apply Kd.R_alloc | apply Kd.R_drewN | apply Kd.R_drew)); exact HO116.out) hb); have n1_ := Aside0.mk (below_step (by repeat (first | (with_reducible first | exact HB.out | apply below_alloc | apply pw_below_drewN | apply below_drew1) | exact HB.out)) hb); clear HO116; clear HB; have HO116 := n0_; have HB := n1_; clear n0_ n1_; (try clear hb); (try clear hb2); (try clear hk); (try clear hi)) | (go_at_call 33; (with_reducible refine (tripartiteref03_Right.calls k _ _ y101 _ _ y105 _ _ y109 t118 _ ?side1 ?side2 ?side3 ?side4 ?side5 ?side6 A17.out).mono ?_); (case side1 => repeat (first | exact (Kd.C_below HR104.out HB.out) | (with_reducible refine Kd.C_alloc ?_ _) | (with_reducible refine Kd.C_drewN ?_ _) | (with_reducible refine Kd.C_drew ?_))); (case side2 => exact HC104.out); (case side3 => repeat (first | exact (Kd.C_below HR108.out HB.out) | (with_reducible refine Kd.C_alloc ?_ _) | (with_reducible refine Kd.C_drewN ?_ _) | (with_reducible refine Kd.C_drew ?_))); (case side4 => exact HC108.out); (case side5 => repeat (first | exact (Kd.C_below HR112.out HB.out) | (with_reducible refine Kd.C_alloc ?_ _) | (with_reducible refine Kd.C_drewN ?_ _) | (with_reducible refine Kd.C_drew ?_))); (case side6 => exact HC112.out); rintro e w25 ⟨rfl, hb⟩; have n0_ := Aside0.mk (Kd.R_below (by (with_reducible repeat (first | apply Kd.R_alloc | apply Kd.R_drewN | apply Kd.R_drew)); exact HO116.out) hb); have n1_ := Aside0.mk (below_step (by repeat (first | (with_reducible first | exact HB.out | apply below_alloc | apply pw_below_drewN | apply below_drew1) | exact HB.out)) hb); clear HO116; clear HB; have HO116 := n0_; have HB := n1_; clear n0_ n1_; (try clear hb); (try clear hb2); (try clear hk); (try clear hi))); try go_wp2_with (first | (go_at_call 28; (with_reducible refine (tripartitelaw03_told.calls k  true _ A13.out).mono ?_); rintro e w21 ⟨rfl, hb⟩; have n0_ := Aside0.mk (below_step (by repeat (first | (with_reducible first | exact HB.out | apply below_alloc | apply pw_below_drewN | apply below_drew1) | exact HB.out)) hb); clear HB; have HB := n0_; clear n0_; (try clear hb); (try clear hb2); (try clear hk); (try clear hi)) | (go_at_call 32; (with_reducible refine (tripartitelaw03_To.calls k _ _ y109 t114 _ ?side1 ?side2 A15.out).mono ?_); (case side1 => repeat (first | exact (Kd.C_below HR112.out HB.out) | (with_reducible refine Kd.C_alloc ?_ _) | (with_reducible refine Kd.C_drewN ?_ _) | (with_reducible refine Kd.C_drew ?_))); (case side2 => exact HC112.out); rintro e w22 ⟨v115, rfl, ho0, hb⟩; have n0_ := Aside0.mk (Kd.R_lower ho0 (below_size (by repeat (first | (with_reducible first | exact HB.out | apply below_alloc | apply pw_below_drewN | apply below_drew1) | exact HB.out)))); have n1_ := Aside0.mk (below_step (by repeat (first | (with_reducible first | exact HB.out | apply below_alloc | apply pw_below_drewN | apply below_drew1) | exact HB.out)) hb); clear HB; have HO116 := n0_; have HB := n1_; clear n0_ n1_; (try clear hb); (try clear hb2); (try clear hk); (try clear hi); (try clear ho0); obtain ⟨Ao23, co23, eo23⟩ := Kd.R_slice HO116.out; subst eo23) | (go_at_call 31; (with_reducible refine (lcs_Right.calls k _ _ y101 _ _ y105 _ _ t114 t117 _ ?side1 ?side2 ?side3 ?side4 ?side5 ?side6 A16.out).mono ?_); (case side1 => repeat (first | exact (Kd.C_below HR104.out HB.out) | (with_reducible refine Kd.C_alloc ?_ _) | (with_reducible refine Kd.C_drewN ?_ _) | (with_reducible refine Kd.C_drew ?_))); (case side2 => exact HC104.out); (case side3 => repeat (first | exact (Kd.C_below HR108.out HB.out) | (with_reducible refine Kd.C_alloc ?_ _) | (with_reducible refine Kd.C_drewN ?_ _) | (with_reducible refine Kd.C_drew ?_))); (case side4 => exact HC108.out); (case side5 => repeat (first | exact (Kd.R_reads' HO116.out).2.2 | (with_reducible refine Kd.C_alloc ?_ _) | (with_reducible refine Kd.C_drewN ?_ _) | (with_reducible refine Kd.C_drew ?_))); (case side6 => exact (Kd.R_reads' HO116.out).2.1); rintro e w24 ⟨rfl, hb⟩; have n0_ := Aside0.mk (Kd.R_below (by (with_reducible repeat (first | apply Kd.R_alloc | apply Kd.R_drewN | apply Kd.R_drew)); exact HO116.out) hb); have n1_ := Aside0.mk (below_step (by repeat (first | (with_reducible first | exact HB.out | apply below_alloc | apply pw_below_drewN | apply below_drew1) | exact HB.out)) hb); clear HO116; clear HB; have HO116 := n0_; have HB := n1_; clear n0_ n1_; (try clear hb); (try clear hb2); (try clear hk); (try clear hi)) | (go_at_call 33; (with_reducible refine (tripartiteref03_Right.calls k _ _ y101 _ _ y105 _ _ y109 t118 _ ?side1 ?side2 ?side3 ?side4 ?side5 ?side6 A17.out).mono ?_); (case side1 => repeat (first | exact (Kd.C_below HR104.out HB.out) | (with_reducible refine Kd.C_alloc ?_ _) | (with_reducible refine Kd.C_drewN ?_ _) | (with_reducible refine Kd.C_drew ?_))); (case side2 => exact HC104.out); (case side3 => repeat (first | exact (Kd.C_below HR108.out HB.out) | (with_reducible refine Kd.C_alloc ?_ _) | (with_reducible refine Kd.C_drewN ?_ _) | (with_reducible refine Kd.C_drew ?_))); (case side4 => exact HC108.out); (case side5 => repeat (first | exact (Kd.C_below HR112.out HB.out) | (with_reducible refine Kd.C_alloc ?_ _) | (with_reducible refine Kd.C_drewN ?_ _) | (with_reducible refine Kd.C_drew ?_))); (case side6 => exact HC112.out); rintro e w25 ⟨rfl, hb⟩; have n0_ := Aside0.mk (Kd.R_below (by (with_reducible repeat (first | apply Kd.R_alloc | apply Kd.R_drewN | apply Kd.R_drew)); exact HO116.out) hb); have n1_ := Aside0.mk (below_step (by repeat (first | (with_reducible first | exact HB.out | apply below_alloc | apply pw_below_drewN | apply below_drew1) | exact HB.out)) hb); clear HO116; clear HB; have HO116 := n0_; have HB := n1_; clear n0_ n1_; (try clear hb); (try clear hb2); (try clear hk); (try clear hi))))
                go_ret
                exact ⟨by first | rfl | (simp [errW_none, errW_some] <;> rfl) | (simp only [← hji4, ← hji7, ← hji10]; first | rfl | (simp [errW_none, errW_some] <;> rfl)) | (simp [*, errW_none, errW_some] <;> rfl), by repeat (first | (with_reducible first | exact HB.out | apply below_alloc | apply pw_below_drewN | apply below_drew1) | exact HB.out)⟩
              · replace c14 := Bool.eq_false_iff.mpr c14
                subst c14
                have H1 : (some false) = some r := by rw [if_neg (show ¬ (false = true) by decide)] at H; exact H
                clear H
                have H := H1
                clear H1
                obtain rfl := Option.some.inj H
                have q26 : ((ji4) : Int) ≤ ((l0.length : Int) : Int) := of_decide_eq_true (by first | (with_reducible assumption) | assumption)
                obtain ⟨i026, hi026, _, hsz26, _⟩ := info_parts info3
                have hroom26 : l0.length ≤ c0 := HC0.out
                have hC26 : Kd.C (Kd.int .i64) _ A0 l0.length l0 := HR0.out
                have hcut26 := cut_to (P := Try.prog) 22 3 .i64 Try.underlying22 hi026 A0 l0.length c0 (ji4) (of_decide_eq_true (by first | (with_reducible assumption) | assumption)) q26 hroom26
                have hr26 := Kd.C_take (m := ((ji4) : Int).toNat) hC26 (by omega)
                have hy26 : y101.length = ((ji4) : Int).toNat := (by rw [Ny101.out, List.length_take]; omega)
                rw [← Ny101.out] at hr26
                rw [← hy26] at hcut26
                have HR104 := Aside0.mk hr26
                have HC104 := Aside0.mk (show y101.length ≤ c0 from by omega)
                clear hr26 hC26 hroom26 hi026 hsz26
                have KY26 := Aside0.mk hy26
                clear hy26
                replace q26 := eq_true q26
                have q27 : ((ji7) : Int) ≤ ((l1.length : Int) : Int) := of_decide_eq_true (by first | (with_reducible assumption) | assumption)
                obtain ⟨i027, hi027, _, hsz27, _⟩ := info_parts info3
                have hroom27 : l1.length ≤ c1 := HC1.out
                have hC27 : Kd.C (Kd.int .i64) _ A1 l1.length l1 := HR1.out
                have hcut27 := cut_to (P := Try.prog) 22 3 .i64 Try.underlying22 hi027 A1 l1.length c1 (ji7) (of_decide_eq_true (by first | (with_reducible assumption) | assumption)) q27 hroom27
                have hr27 := Kd.C_take (m := ((ji7) : Int).toNat) hC27 (by omega)
                have hy27 : y105.length = ((ji7) : Int).toNat := (by rw [Ny105.out, List.length_take]; omega)
                rw [← Ny105.out] at hr27
                rw [← hy27] at hcut27
                have HR108 := Aside0.mk hr27
                have HC108 := Aside0.mk (show y105.length ≤ c1 from by omega)
                clear hr27 hC27 hroom27 hi027 hsz27
                have KY27 := Aside0.mk hy27
                clear hy27
                replace q27 := eq_true q27
                have q28 : ((ji10) : Int) ≤ ((l2.length : Int) : Int) := of_decide_eq_true (by first | (with_reducible assumption) | assumption)
                obtain ⟨i028, hi028, _, hsz28, _⟩ := info_parts info37
                have hroom28 : l2.length ≤ c2 := HC2.out
                have hC28 : Kd.C k37 _ A2 l2.length l2 := HR2.out
                have hcut28 := cut_to (P := Try.prog) 30 37 .i64 Try.underlying30 hi028 A2 l2.length c2 (ji10) (of_decide_eq_true (by first | (with_reducible assumption) | assumption)) q28 hroom28
                have hr28 := Kd.C_take (m := ((ji10) : Int).toNat) hC28 (by omega)
                have hy28 : y109.length = ((ji10) : Int).toNat := (by rw [Ny109.out, List.length_take]; omega)
                rw [← Ny109.out] at hr28
                rw [← hy28] at hcut28
                have HR112 := Aside0.mk hr28
                have HC112 := Aside0.mk (show y109.length ≤ c2 from by omega)
                clear hr28 hC28 hroom28 hi028 hsz28
                have KY28 := Aside0.mk hy28
                clear hy28
                replace q28 := eq_true q28
                go_enter Try.func8, Try.ntmps8
                go_wp2_with (first | (go_at_call 28; (with_reducible refine (tripartitelaw03_told.calls k  false _ A13.out).mono ?_); rintro e w29 ⟨rfl, hb⟩; have n0_ := Aside0.mk (below_step (by repeat (first | (with_reducible first | exact HB.out | apply below_alloc | apply pw_below_drewN | apply below_drew1) | exact HB.out)) hb); clear HB; have HB := n0_; clear n0_; (try clear hb); (try clear hb2); (try clear hk); (try clear hi)))
                repeat (go_quiet (first | (go_at_call 28; (with_reducible refine (tripartitelaw03_told.calls k  false _ A13.out).mono ?_); rintro e w29 ⟨rfl, hb⟩; have n0_ := Aside0.mk (below_step (by repeat (first | (with_reducible first | exact HB.out | apply below_alloc | apply pw_below_drewN | apply below_drew1) | exact HB.out)) hb); clear HB; have HB := n0_; clear n0_; (try clear hb); (try clear hb2); (try clear hk); (try clear hi))); try go_wp2_with (first | (go_at_call 28; (with_reducible refine (tripartitelaw03_told.calls k  false _ A13.out).mono ?_); rintro e w29 ⟨rfl, hb⟩; have n0_ := Aside0.mk (below_step (by repeat (first | (with_reducible first | exact HB.out | apply below_alloc | apply pw_below_drewN | apply below_drew1) | exact HB.out)) hb); clear HB; have HB := n0_; clear n0_; (try clear hb); (try clear hb2); (try clear hk); (try clear hi))))
                go_ret
                exact ⟨by first | rfl | (simp [errW_none, errW_some] <;> rfl) | (simp only [← hji4, ← hji7, ← hji10]; first | rfl | (simp [errW_none, errW_some] <;> rfl)) | (simp [*, errW_none, errW_some] <;> rfl), by repeat (first | (with_reducible first | exact HB.out | apply below_alloc | apply pw_below_drewN | apply below_drew1) | exact HB.out)⟩
            · rw [if_neg c12] at H
              exact absurd H (by simp)
          · rw [if_neg c11] at H
            exact absurd H (by simp)
        · rw [if_neg c9] at H
          exact absurd H (by simp)
      · rw [if_neg c8] at H
        exact absurd H (by simp)
    · rw [if_neg c6] at H
      exact absurd H (by simp)
  · rw [if_neg c5] at H
    exact absurd H (by simp)

end Go.Proofs.Ytadafplbgophfaa.PA
