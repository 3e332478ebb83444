-- Written by a program of this seat out of the translation. Not trusted: Lean checks it.
import Derived.Test.YtadafplbgophfaaPA0
import Derived.Test.YtadafplbgophfaaPAf30
import Derived.Test.YtadafplbgophfaaPAf28
import Derived.Test.YtadafplbgophfaaH27
namespace Go.Proofs.Ytadafplbgophfaa.PA
open Go.RowKit Go.Proofs.YtadafplbgophfaaW.PrintWords Go.Proofs.YtadafplbgophfaaW.PrintLast Go.Proofs.YtadafplbgophfaaW.PrintMore
attribute [local go_sem] max2_int min2_int max_two min_two max_three min_three max_four min_four   -- for this text's walks alone
set_option linter.unusedVariables false
set_option linter.unusedSimpArgs false

/-! ### tripartitelaw03_LcsAlls: function 6 -/
mutual
def tripartitelaw03_LcsAlls.l0 : Nat → List Int → List Bool → List Int → Int → Option (Bool)
  | 0, _, _, _, _ => none
  | k + 1, x0, x1, x5, x6 => if x6 < (x0.length : Int) then (if x6 ≥ (x1.length : Int) then (if 0 ≤ x6 then (if x5.length < 17592186044416 then (tripartitelaw03_LcsAlls.l0 k x0 x1 (x5 ++ [rd x0 x6]) (wrap64 (x6 + 1))) else (none)) else (none)) else (if 0 ≤ x6 then (if x6 < (x1.length : Int) then (if rdOf false x1 x6 = true then (tripartitelaw03_LcsAlls.l0 k x0 x1 x5 (wrap64 (x6 + 1))) else (if x5.length < 17592186044416 then (tripartitelaw03_LcsAlls.l0 k x0 x1 (x5 ++ [rd x0 x6]) (wrap64 (x6 + 1))) else (none))) else (none)) else (none))) else ((lcs_Match.f k x0 x0).bind fun t114 => ((tripartitelaw03_told.f k).bind fun t117 => (if t117 = true then (if (t114.length : Int) = (x0.length : Int) then ((lcs_Distance.f k x0 x0).bind fun t118 => (if t118 = 0 then ((lcs_Match.f k x0 x5).bind fun t119 => (if (t119.length : Int) = (x5.length : Int) then ((lcs_Match.f k x5 x0).bind fun t122 => (tripartitelaw03_LcsAlls.j1 k t114 ((t122.length : Int) != (x5.length : Int)))) else (tripartitelaw03_LcsAlls.j1 k t114 true))) else (tripartitelaw03_LcsAlls.j1 k t114 true))) else (tripartitelaw03_LcsAlls.j1 k t114 true)) else (tripartitelaw03_LcsAlls.j1 k t114 true))))
def tripartitelaw03_LcsAlls.j1 : Nat → List (S39) → Bool → Option (Bool)
  | 0, _, _ => none
  | k + 1, x7, x73 => if x73 = true then (some false) else (tripartitelaw03_LcsAlls.l1 k x7 0)
def tripartitelaw03_LcsAlls.l1 : Nat → List (S39) → Int → Option (Bool)
  | 0, _, _ => none
  | k + 1, x7, x8 => if x8 < (x7.length : Int) then (if 0 ≤ x8 then (if ((rd_T39 x7 x8).f0) = x8 then (if ((rd_T39 x7 x8).f1) = x8 then (tripartitelaw03_LcsAlls.l1 k x7 (wrap64 (x8 + 1))) else (some false)) else (some false)) else (none)) else (some true)
end
def tripartitelaw03_LcsAlls.f (k : Nat) (l0 : List Int) (l1 : List Bool) : Option (Bool) := if 0 ≤ (mn (l0.length : Int) 200) then (if (mn (l0.length : Int) 200) ≤ (l0.length : Int) then (tripartitelaw03_LcsAlls.l0 k (l0.take ((mn (l0.length : Int) 200) : Int).toNat) l1 ([] : List Int) 0) else (none)) else (none)
theorem tripartitelaw03_LcsAlls.mono_l : ∀ k, (∀ y0 y1 y2 y3, LeO (tripartitelaw03_LcsAlls.l0 k y0 y1 y2 y3) (tripartitelaw03_LcsAlls.l0 (k + 1) y0 y1 y2 y3)) ∧ (∀ y0 y1, LeO (tripartitelaw03_LcsAlls.j1 k y0 y1) (tripartitelaw03_LcsAlls.j1 (k + 1) y0 y1)) ∧ (∀ y0 y1, LeO (tripartitelaw03_LcsAlls.l1 k y0 y1) (tripartitelaw03_LcsAlls.l1 (k + 1) y0 y1))
  | 0 => ⟨fun _ _ _ _ r h => by simp [tripartitelaw03_LcsAlls.l0] at h, fun _ _ r h => by simp [tripartitelaw03_LcsAlls.j1] at h, fun _ _ r h => by simp [tripartitelaw03_LcsAlls.l1] at h⟩
  | k + 1 => by
    obtain ⟨ih0, ih1, ih2⟩ := tripartitelaw03_LcsAlls.mono_l k
    refine ⟨?_, ?_, ?_⟩
    · intro y0 y1 y2 y3
      unfold tripartitelaw03_LcsAlls.l0
      repeat' first
      | (with_reducible exact ih0 _ _ _ _)
      | (with_reducible exact ih1 _ _)
      | (with_reducible exact ih2 _ _)
      | (with_reducible exact lcs_Distance.mono _ _ _)
      | (with_reducible exact lcs_Match.mono _ _ _)
      | (with_reducible exact tripartitelaw03_told.mono _)
      | (with_reducible exact LeO.refl _)
      | (with_reducible exact LeO.none _)
      | (with_reducible refine LeO.ite ?_ ?_)
      | (with_reducible refine LeO.bind ?_ (fun _ => ?_))
      | exact ih0 _ _ _ _
      | exact ih1 _ _
      | exact ih2 _ _
      | exact lcs_Distance.mono _ _ _
      | exact lcs_Match.mono _ _ _
      | exact tripartitelaw03_told.mono _
      | exact LeO.none _
      | refine LeO.ite ?_ ?_
      | refine LeO.bind ?_ (fun _ => ?_)
    · intro y0 y1
      unfold tripartitelaw03_LcsAlls.j1
      repeat' first
      | (with_reducible exact ih0 _ _ _ _)
      | (with_reducible exact ih1 _ _)
      | (with_reducible exact ih2 _ _)
      | (with_reducible exact lcs_Distance.mono _ _ _)
      | (with_reducible exact lcs_Match.mono _ _ _)
      | (with_reducible exact tripartitelaw03_told.mono _)
      | (with_reducible exact LeO.refl _)
      | (with_reducible exact LeO.none _)
      | (with_reducible refine LeO.ite ?_ ?_)
      | (with_reducible refine LeO.bind ?_ (fun _ => ?_))
      | exact ih0 _ _ _ _
      | exact ih1 _ _
      | exact ih2 _ _
      | exact lcs_Distance.mono _ _ _
      | exact lcs_Match.mono _ _ _
      | exact tripartitelaw03_told.mono _
      | exact LeO.none _
      | refine LeO.ite ?_ ?_
      | refine LeO.bind ?_ (fun _ => ?_)
    · intro y0 y1
      unfold tripartitelaw03_LcsAlls.l1
      repeat' first
      | (with_reducible exact ih0 _ _ _ _)
      | (with_reducible exact ih1 _ _)
      | (with_reducible exact ih2 _ _)
      | (with_reducible exact lcs_Distance.mono _ _ _)
      | (with_reducible exact lcs_Match.mono _ _ _)
      | (with_reducible exact tripartitelaw03_told.mono _)
      | (with_reducible exact LeO.refl _)
      | (with_reducible exact LeO.none _)
      | (with_reducible refine LeO.ite ?_ ?_)
      | (with_reducible refine LeO.bind ?_ (fun _ => ?_))
      | exact ih0 _ _ _ _
      | exact ih1 _ _
      | exact ih2 _ _
      | exact lcs_Distance.mono _ _ _
      | exact lcs_Match.mono _ _ _
      | exact tripartitelaw03_told.mono _
      | exact LeO.none _
      | refine LeO.ite ?_ ?_
      | refine LeO.bind ?_ (fun _ => ?_)
theorem tripartitelaw03_LcsAlls.mono : ∀ a0 a1 k, LeO (tripartitelaw03_LcsAlls.f k a0 a1) (tripartitelaw03_LcsAlls.f (k + 1) a0 a1) := by
  intro a0 a1 k
  obtain ⟨ih0, ih1, ih2⟩ := tripartitelaw03_LcsAlls.mono_l k
  unfold tripartitelaw03_LcsAlls.f
  repeat' first
      | (with_reducible exact ih0 _ _ _ _)
      | (with_reducible exact ih1 _ _)
      | (with_reducible exact ih2 _ _)
      | (with_reducible exact lcs_Distance.mono _ _ _)
      | (with_reducible exact lcs_Match.mono _ _ _)
      | (with_reducible exact tripartitelaw03_told.mono _)
      | (with_reducible exact LeO.refl _)
      | (with_reducible exact LeO.none _)
      | (with_reducible refine LeO.ite ?_ ?_)
      | (with_reducible refine LeO.bind ?_ (fun _ => ?_))
      | exact ih0 _ _ _ _
      | exact ih1 _ _
      | exact ih2 _ _
      | exact lcs_Distance.mono _ _ _
      | exact lcs_Match.mono _ _ _
      | exact tripartitelaw03_told.mono _
      | exact LeO.none _
      | refine LeO.ite ?_ ?_
      | refine LeO.bind ?_ (fun _ => ?_)
set_option maxHeartbeats 8000000 in
set_option maxRecDepth 100000 in
theorem tripartitelaw03_LcsAlls.calls (k : Nat) (A0 : Option Addr) (c0 : Nat) (l0 : List Int) (A1 : Option Addr) (c1 : Nat) (l1 : List Bool) (r : Bool) (w : World) (hr0 : Kd.C (Kd.int .i64) w A0 l0.length l0) (hc0 : l0.length ≤ c0) (hr1 : Kd.C Kd.bool w A1 l1.length l1) (hc1 : l1.length ≤ c1) (h : tripartitelaw03_LcsAlls.f k l0 l1 = some r) :
    Calls Try.prog 6 #[.slice A0 l0.length c0, .slice A1 l1.length c1] w fun e w' => e = .returned (.bool r) ∧ Below w.heap.size w w' := by
  have HR0 := Aside0.mk hr0
  have HC0 := Aside0.mk hc0
  clear hr0 hc0
  have HR1 := Aside0.mk hr1
  have HC1 := Aside0.mk hc1
  clear hr1 hc1
  have HB := Aside0.mk (Below.refl w.heap.size w)
  have H : (if 0 ≤ (mn (l0.length : Int) 200) then (if (mn (l0.length : Int) 200) ≤ (l0.length : Int) then (tripartitelaw03_LcsAlls.l0 k (l0.take ((mn (l0.length : Int) 200) : Int).toNat) l1 ([] : List Int) 0) else (none)) else (none)) = some r := h
  clear h
  obtain ⟨ji3, hji3⟩ : ∃ j_ : Int, (mn (l0.length : Int) 200) = j_ := ⟨_, rfl⟩
  replace H : (if 0 ≤ (ji3) then (if (ji3) ≤ (l0.length : Int) then (tripartitelaw03_LcsAlls.l0 k (l0.take ((ji3) : Int).toNat) l1 ([] : List Int) 0) else (none)) else (none)) = some r := by first | (rw [hji3] at H; exact H) | (simp only [hji3] at H ⊢; exact H)
  (try (have hji3h : ji3 ≤ 200 := by (rw [← hji3]; unfold mn; (repeat' split) <;> omega)))
  (try (have hji3g : ji3 ≤ 64 := by omega))
  (try (have hji3l : 0 ≤ ji3 := by (rw [← hji3]; unfold mn; (repeat' split) <;> omega)))
  (try (have hji3m : 0 ≤ ji3 := by omega))
  have hji3_ : (if 200 < (l0.length : Int) then 200 else (l0.length : Int)) = ji3 := hji3
  have hji3_n : (if 200 < l0.length then 200 else (l0.length : Int)) = ji3 := by first | exact_mod_cast hji3_ | (rw [← hji3_]; simp only [Int.ofNat_lt]; done) | (rw [← hji3_]; (repeat' split) <;> omega)
  by_cases c4 : 0 ≤ (ji3)
  · rw [if_pos c4] at H
    have c4b0 := eq_true c4
    have c4b1 : decide (0 ≤ (ji3)) = true := decide_eq_true c4
    clear c4
    by_cases c5 : (ji3) ≤ (l0.length : Int)
    · rw [if_pos c5] at H
      have c5b0 := eq_true c5
      have c5b1 : decide ((ji3) ≤ (l0.length : Int)) = true := decide_eq_true c5
      clear c5
      obtain ⟨y101, hy101⟩ : ∃ y_ : List Int, y_ = (l0.take ((ji3) : Int).toNat) := ⟨_, rfl⟩
      replace H : (tripartitelaw03_LcsAlls.l0 k y101 l1 ([] : List Int) 0) = some r := by first | (rw [hy101]; with_reducible exact H) | (have H2_ := (Option.bind_some _ _).symm.trans H; rw [hy101]; with_reducible exact H2_) | (have H2_ := (Option.bind_some _ _).symm.trans H; with_reducible exact H2_) | with_reducible exact H | (rw [hy101]; exact H) | exact H
      have Ny101 := Aside0.mk hy101
      clear hy101
      have H' := Aside0.mk H
      clear H
      have q6 : ((ji3) : Int) ≤ ((l0.length : Int) : Int) := of_decide_eq_true (by first | (with_reducible assumption) | assumption)
      obtain ⟨i06, hi06, _, hsz6, _⟩ := info_parts info3
      have hroom6 : l0.length ≤ c0 := HC0.out
      have hC6 : Kd.C (Kd.int .i64) _ A0 l0.length l0 := HR0.out
      have hcut6 := cut_to (P := Try.prog) 22 3 .i64 Try.underlying22 hi06 A0 l0.length c0 (ji3) (of_decide_eq_true (by first | (with_reducible assumption) | assumption)) q6 hroom6
      have hr6 := Kd.C_take (m := ((ji3) : Int).toNat) hC6 (by omega)
      have hy6 : y101.length = ((ji3) : Int).toNat := (by rw [Ny101.out, List.length_take]; omega)
      rw [← Ny101.out] at hr6
      rw [← hy6] at hcut6
      have HR104 := Aside0.mk hr6
      have HC104 := Aside0.mk (show y101.length ≤ c0 from by omega)
      clear hr6 hC6 hroom6 hi06 hsz6
      have KY6 := Aside0.mk hy6
      clear hy6
      replace q6 := eq_true q6
      go_enter Try.func6, Try.ntmps6
      go_wp2
      go_loopg [5, 6] k (fun kq v5 v6 w' => ∃ (x5_1 : List Int) (x6_1 : Int), v6 = .int .i64 x6_1 ∧ Aside0 (tripartitelaw03_LcsAlls.l0 kq y101 l1 x5_1 x6_1 = some r) ∧ Aside0 (kq ≤ k) ∧ Aside0 (Kd.R (Kd.int .i64) 3 w' w.heap.size (fun _ => True) v5 x5_1) ∧ Aside0 (Below w.heap.size w w'))
      case atStart => exact ⟨(([] : List Int)), (0), (by first | rfl | (simp; done) | (simp [*]; done)), H', ⟨Nat.le_refl _⟩, ⟨by first | exact Kd.R_nil _ _ _ _ _ | exact Kd.N_nil _ _ _ _ _ | exact Kd.V_nil _ _ _ _ _ | exact Kd.Q_nil _ _ _ _ _ | exact Kd.S_nil _ _ _ _ _⟩, ⟨by repeat (first | (with_reducible first | exact HB.out | apply below_alloc | apply pw_below_drewN | apply below_drew1) | exact HB.out)⟩⟩
      case round =>
        clear H'
        try clear c1
        try clear p2
        try clear c4
        try clear c4b0
        try clear c4b1
        try clear c5
        try clear c5b0
        try clear c5b1
        try clear c6
        try clear q6
        try clear q6
        obtain ⟨x5_1, x6_1, rfl, HA, HK1, HO_5, HB⟩ := hrel
        cases gk with
        | zero => exact absurd HA.out (by simp [tripartitelaw03_LcsAlls.l0])
        | succ k1 =>
          have H := HA.out
          clear HA
          simp only [tripartitelaw03_LcsAlls.l0] at H
          by_cases c7 : x6_1 < (y101.length : Int)
          · rw [if_pos c7] at H
            have c7b0 : decide (x6_1 < (y101.length : Int)) = true := decide_eq_true c7
            clear c7
            by_cases c8 : x6_1 ≥ (l1.length : Int)
            · rw [if_pos c8] at H
              have c8b0 : decide ((l1.length : Int) ≤ x6_1) = true := decide_eq_true c8
              clear c8
              by_cases c9 : 0 ≤ x6_1
              · rw [if_pos c9] at H
                have c9b0 : decide (0 ≤ x6_1) = true := decide_eq_true c9
                clear c9
                by_cases c10 : x5_1.length < 17592186044416
                · rw [if_pos c10] at H
                  have LMc10 := Aside0.mk c10
                  clear c10
                  obtain ⟨y106, hy106⟩ : ∃ y_ : List Int, y_ = (x5_1 ++ [rd y101 x6_1]) := ⟨_, rfl⟩
                  replace H : (tripartitelaw03_LcsAlls.l0 k1 y101 l1 y106 (wrap64 (x6_1 + 1))) = some r := by first | (rw [hy106]; with_reducible exact H) | (have H2_ := (Option.bind_some _ _).symm.trans H; rw [hy106]; with_reducible exact H2_) | (have H2_ := (Option.bind_some _ _).symm.trans H; with_reducible exact H2_) | with_reducible exact H | (rw [hy106]; exact H) | exact H
                  have Ny106 := Aside0.mk hy106
                  clear hy106
                  have H' := Aside0.mk H
                  clear H
                  have p105 : 0 ≤ (x6_1 : Int) := of_decide_eq_true (by first | (with_reducible assumption) | assumption)
                  have q105 : x6_1 < (y101.length : Int) := of_decide_eq_true (by first | (with_reducible assumption) | assumption)
                  obtain ⟨ad105, e105, hx105_0⟩ := Kd.at_int HR104.out x6_1 p105 q105
                  cases e105
                  replace hx105_0 := (HB.out.cell (World.block_lt_of_cell? w _ hx105_0)).trans hx105_0
                  replace p105 := eq_true p105
                  replace q105 := eq_true q105
                  go_wp2_with (first | ((with_reducible refine gate_builtin (b := .append) (xs := #[.tmp 31, .tmp 36]) rfl ?_); (try (refine gate_guard (by rfl) ?_; dsimp only)); at_builtin; refine Kd.R_append (Kd.int .i64) (w0 := w) w.heap.size rfl (.tmp 31) (.tmp 36) 22 3 (.int .i64 0) 8 rfl Try.underlying22 info3 rfl (by decide) (by omega) u5 x5_1 (rd y101 x6_1) [.int .i64 (rd y101 x6_1)] (fun _ => True) (fun _ => False) rfl rfl ?aP (fun _ hk => hk.elim) ?aF ?aO ?aB ?aS ?aL ?_; (case aP => exact rfl); (case aB => exact (by repeat (first | (with_reducible first | exact HB.out | apply below_alloc | apply pw_below_drewN | apply below_drew1) | exact HB.out))); (case aF => exact (fun _ _ => trivial)); (case aO => exact (by (with_reducible repeat (first | apply Kd.R_alloc | apply Kd.R_drewN | apply Kd.R_drew)); exact HO_5.out)); (case aS => exact (below_size (by repeat (first | (with_reducible first | exact HB.out | apply below_alloc | apply pw_below_drewN | apply below_drew1) | exact HB.out)))); (case aL => have := LMc10.out; omega); intro v107 w11 ho hb hg hat; rw [← Ny106.out] at ho; have n0_ := Aside0.mk (hb); have n1_ := Aside0.mk (ho); clear HB; clear HO_5; have HB := n0_; have HO108 := n1_; clear n0_ n1_; clear ho hb hg hat))
                  go_roundg k1
                  case measure => have := HK1.out; omega
                  case rel => exact ⟨(y106), (wrap64 (x6_1 + 1)), (by first | rfl | (simp; done) | (simp [*]; done)), H', ⟨by have := HK1.out; omega⟩, ⟨by (with_reducible repeat (first | apply Kd.R_alloc | apply Kd.R_drewN | apply Kd.R_drew)); exact HO108.out⟩, ⟨by repeat (first | (with_reducible first | exact HB.out | apply below_alloc | apply pw_below_drewN | apply below_drew1) | exact HB.out)⟩⟩
                · rw [if_neg c10] at H
                  exact absurd H (by simp)
              · rw [if_neg c9] at H
                exact absurd H (by simp)
            · rw [if_neg c8] at H
              have c8b0 : decide ((l1.length : Int) ≤ x6_1) = false := decide_eq_false c8
              clear c8
              by_cases c12 : 0 ≤ x6_1
              · rw [if_pos c12] at H
                have c12b0 : decide (0 ≤ x6_1) = true := decide_eq_true c12
                clear c12
                by_cases c13 : x6_1 < (l1.length : Int)
                · rw [if_pos c13] at H
                  have c13b0 : decide (x6_1 < (l1.length : Int)) = true := decide_eq_true c13
                  clear c13
                  obtain ⟨bq14, hbq14⟩ : ∃ b_ : Bool, b_ = (rdOf false l1 x6_1) := ⟨_, rfl⟩
                  replace H : (if bq14 = true then (tripartitelaw03_LcsAlls.l0 k1 y101 l1 x5_1 (wrap64 (x6_1 + 1))) else (if x5_1.length < 17592186044416 then (tripartitelaw03_LcsAlls.l0 k1 y101 l1 (x5_1 ++ [rd y101 x6_1]) (wrap64 (x6_1 + 1))) else (none))) = some r := by rw [← hbq14] at H; exact H
                  have Nbq14 := Aside0.mk hbq14
                  clear hbq14
                  by_cases c15 : bq14 = true
                  · subst c15
                    have H1 : (tripartitelaw03_LcsAlls.l0 k1 y101 l1 x5_1 (wrap64 (x6_1 + 1))) = some r := by rw [if_pos rfl] at H; exact H
                    clear H
                    have H := H1
                    clear H1
                    have H' := Aside0.mk H
                    clear H
                    have p109 : 0 ≤ (x6_1 : Int) := of_decide_eq_true (by first | (with_reducible assumption) | assumption)
                    have q109 : x6_1 < (l1.length : Int) := of_decide_eq_true (by first | (with_reducible assumption) | assumption)
                    obtain ⟨ad109, e109, hx109_0⟩ := Kd.at_bool HR1.out x6_1 p109 q109
                    (try rw [← Nbq14.out] at hx109_0)
                    cases e109
                    replace hx109_0 := (HB.out.cell (World.block_lt_of_cell? w _ hx109_0)).trans hx109_0
                    replace p109 := eq_true p109
                    replace q109 := eq_true q109
                    go_wp2
                    go_roundg k1
                    case measure => have := HK1.out; omega
                    case rel => exact ⟨(x5_1), (wrap64 (x6_1 + 1)), (by first | rfl | (simp; done) | (simp [*]; done)), H', ⟨by have := HK1.out; omega⟩, ⟨by (with_reducible repeat (first | apply Kd.R_alloc | apply Kd.R_drewN | apply Kd.R_drew)); exact HO_5.out⟩, ⟨by repeat (first | (with_reducible first | exact HB.out | apply below_alloc | apply pw_below_drewN | apply below_drew1) | exact HB.out)⟩⟩
                  · replace c15 := Bool.eq_false_iff.mpr c15
                    subst c15
                    have H1 : (if x5_1.length < 17592186044416 then (tripartitelaw03_LcsAlls.l0 k1 y101 l1 (x5_1 ++ [rd y101 x6_1]) (wrap64 (x6_1 + 1))) else (none)) = some r := by rw [if_neg (show ¬ (false = true) by decide)] at H; exact H
                    clear H
                    have H := H1
                    clear H1
                    by_cases c16 : x5_1.length < 17592186044416
                    · rw [if_pos c16] at H
                      have LMc16 := Aside0.mk c16
                      clear c16
                      obtain ⟨y111, hy111⟩ : ∃ y_ : List Int, y_ = (x5_1 ++ [rd y101 x6_1]) := ⟨_, rfl⟩
                      replace H : (tripartitelaw03_LcsAlls.l0 k1 y101 l1 y111 (wrap64 (x6_1 + 1))) = some r := by first | (rw [hy111]; with_reducible exact H) | (have H2_ := (Option.bind_some _ _).symm.trans H; rw [hy111]; with_reducible exact H2_) | (have H2_ := (Option.bind_some _ _).symm.trans H; with_reducible exact H2_) | with_reducible exact H | (rw [hy111]; exact H) | exact H
                      have Ny111 := Aside0.mk hy111
                      clear hy111
                      have H' := Aside0.mk H
                      clear H
                      have p109 : 0 ≤ (x6_1 : Int) := of_decide_eq_true (by first | (with_reducible assumption) | assumption)
                      have q109 : x6_1 < (l1.length : Int) := of_decide_eq_true (by first | (with_reducible assumption) | assumption)
                      obtain ⟨ad109, e109, hx109_0⟩ := Kd.at_bool HR1.out x6_1 p109 q109
                      (try rw [← Nbq14.out] at hx109_0)
                      cases e109
                      replace hx109_0 := (HB.out.cell (World.block_lt_of_cell? w _ hx109_0)).trans hx109_0
                      replace p109 := eq_true p109
                      replace q109 := eq_true q109
                      have p110 : 0 ≤ (x6_1 : Int) := of_decide_eq_true (by first | (with_reducible assumption) | assumption)
                      have q110 : x6_1 < (y101.length : Int) := of_decide_eq_true (by first | (with_reducible assumption) | assumption)
                      obtain ⟨ad110, e110, hx110_0⟩ := Kd.at_int HR104.out x6_1 p110 q110
                      cases e110
                      replace hx110_0 := (HB.out.cell (World.block_lt_of_cell? w _ hx110_0)).trans hx110_0
                      replace p110 := eq_true p110
                      replace q110 := eq_true q110
                      go_wp2_with (first | ((with_reducible refine gate_builtin (b := .append) (xs := #[.tmp 31, .tmp 36]) rfl ?_); (try (refine gate_guard (by rfl) ?_; dsimp only)); at_builtin; refine Kd.R_append (Kd.int .i64) (w0 := w) w.heap.size rfl (.tmp 31) (.tmp 36) 22 3 (.int .i64 0) 8 rfl Try.underlying22 info3 rfl (by decide) (by omega) u5 x5_1 (rd y101 x6_1) [.int .i64 (rd y101 x6_1)] (fun _ => True) (fun _ => False) rfl rfl ?aP (fun _ hk => hk.elim) ?aF ?aO ?aB ?aS ?aL ?_; (case aP => exact rfl); (case aB => exact (by repeat (first | (with_reducible first | exact HB.out | apply below_alloc | apply pw_below_drewN | apply below_drew1) | exact HB.out))); (case aF => exact (fun _ _ => trivial)); (case aO => exact (by (with_reducible repeat (first | apply Kd.R_alloc | apply Kd.R_drewN | apply Kd.R_drew)); exact HO_5.out)); (case aS => exact (below_size (by repeat (first | (with_reducible first | exact HB.out | apply below_alloc | apply pw_below_drewN | apply below_drew1) | exact HB.out)))); (case aL => have := LMc16.out; omega); intro v112 w17 ho hb hg hat; rw [← Ny111.out] at ho; have n0_ := Aside0.mk (hb); have n1_ := Aside0.mk (ho); clear HB; clear HO_5; have HB := n0_; have HO113 := n1_; clear n0_ n1_; clear ho hb hg hat))
                      go_roundg k1
                      case measure => have := HK1.out; omega
                      case rel => exact ⟨(y111), (wrap64 (x6_1 + 1)), (by first | rfl | (simp; done) | (simp [*]; done)), H', ⟨by have := HK1.out; omega⟩, ⟨by (with_reducible repeat (first | apply Kd.R_alloc | apply Kd.R_drewN | apply Kd.R_drew)); exact HO113.out⟩, ⟨by repeat (first | (with_reducible first | exact HB.out | apply below_alloc | apply pw_below_drewN | apply below_drew1) | exact HB.out)⟩⟩
                    · rw [if_neg c16] at H
                      exact absurd H (by simp)
                · rw [if_neg c13] at H
                  exact absurd H (by simp)
              · rw [if_neg c12] at H
                exact absurd H (by simp)
          · rw [if_neg c7] at H
            have c7b0 : decide (x6_1 < (y101.length : Int)) = false := decide_eq_false c7
            clear c7
            replace H := Option.bind_eq_some_iff.mp H
            obtain ⟨t114, A180, H⟩ := H
            replace H : ((tripartitelaw03_told.f k1).bind fun t117 => (if t117 = true then (if (t114.length : Int) = (y101.length : Int) then ((lcs_Distance.f k1 y101 y101).bind fun t118 => (if t118 = 0 then ((lcs_Match.f k1 y101 x5_1).bind fun t119 => (if (t119.length : Int) = (x5_1.length : Int) then ((lcs_Match.f k1 x5_1 y101).bind fun t122 => (tripartitelaw03_LcsAlls.j1 k1 t114 ((t122.length : Int) != (x5_1.length : Int)))) else (tripartitelaw03_LcsAlls.j1 k1 t114 true))) else (tripartitelaw03_LcsAlls.j1 k1 t114 true))) else (tripartitelaw03_LcsAlls.j1 k1 t114 true)) else (tripartitelaw03_LcsAlls.j1 k1 t114 true))) = some r := H
            have A18 := Aside0.mk A180
            clear A180
            have HC19 := Aside0.mk H
            clear H
            go_upto_region 9 with (first | ((with_reducible refine gate_callee (f := 27) rfl ?_); refine goesL_ (some 40) rfl rfl Try.func27 (by kernel_rfl) rfl #[.slice A0 y101.length c0, .slice A0 y101.length c0] rfl (by (try simp only [List.map_toArray, List.map_cons, List.map_nil]); first | done | rfl | (simp only [List.length_drop, List.length_take]; rfl)) ?_; (with_reducible refine (lcs_Match.calls k1 _ _ y101 _ _ y101 t114 _ ?side1 ?side2 ?side3 ?side4 A18.out).mono ?_); (case side1 => repeat (first | exact (Kd.C_below HR104.out HB.out) | (with_reducible refine Kd.C_alloc ?_ _) | (with_reducible refine Kd.C_drewN ?_ _) | (with_reducible refine Kd.C_drew ?_))); (case side2 => exact HC104.out); (case side3 => repeat (first | exact (Kd.C_below HR104.out HB.out) | (with_reducible refine Kd.C_alloc ?_ _) | (with_reducible refine Kd.C_drewN ?_ _) | (with_reducible refine Kd.C_drew ?_))); (case side4 => exact HC104.out); rintro e w20 ⟨v115, rfl, ho0, hb⟩; refine ⟨_, rfl, ?_⟩; have n0_ := Aside0.mk (Kd.R_below (by (with_reducible repeat (first | apply Kd.R_alloc | apply Kd.R_drewN | apply Kd.R_drew)); exact HO_5.out) hb); have n1_ := Aside0.mk (Kd.R_lower ho0 (below_size (by repeat (first | (with_reducible first | exact HB.out | apply below_alloc | apply pw_below_drewN | apply below_drew1) | exact HB.out)))); have n2_ := Aside0.mk (below_step (by repeat (first | (with_reducible first | exact HB.out | apply below_alloc | apply pw_below_drewN | apply below_drew1) | exact HB.out)) hb); clear HO_5; clear HB; have HO_5 := n0_; have HO116 := n1_; have HB := n2_; clear n0_ n1_ n2_; (try clear hb); (try clear hb2); (try clear hk); (try clear hi); (try clear ho0)))
            (try simp only [Act.put, List.setIfInBounds_toArray, List.set_cons_zero, List.set_cons_succ])
            go_cut [73] (fun v73 wc => ∃ (kq : Nat) (x73_18 : Bool), v73 = .bool x73_18 ∧ Aside0 (tripartitelaw03_LcsAlls.j1 kq t114 x73_18 = some r) ∧ Aside0 (kq ≤ k1) ∧ Aside0 (Kd.R k39 39 wc w.heap.size (fun _ => True) v115 t114) ∧ Aside0 (Below w.heap.size w wc))
            case first =>
              have H := HC19.out
              clear HC19
              replace H := Option.bind_eq_some_iff.mp H
              obtain ⟨t117, A210, H⟩ := H
              replace H : (if t117 = true then (if (t114.length : Int) = (y101.length : Int) then ((lcs_Distance.f k1 y101 y101).bind fun t118 => (if t118 = 0 then ((lcs_Match.f k1 y101 x5_1).bind fun t119 => (if (t119.length : Int) = (x5_1.length : Int) then ((lcs_Match.f k1 x5_1 y101).bind fun t122 => (tripartitelaw03_LcsAlls.j1 k1 t114 ((t122.length : Int) != (x5_1.length : Int)))) else (tripartitelaw03_LcsAlls.j1 k1 t114 true))) else (tripartitelaw03_LcsAlls.j1 k1 t114 true))) else (tripartitelaw03_LcsAlls.j1 k1 t114 true)) else (tripartitelaw03_LcsAlls.j1 k1 t114 true)) = some r := H
              have A21 := Aside0.mk A210
              clear A210
              by_cases c22 : t117 = true
              · subst c22
                have H1 : (if (t114.length : Int) = (y101.length : Int) then ((lcs_Distance.f k1 y101 y101).bind fun t118 => (if t118 = 0 then ((lcs_Match.f k1 y101 x5_1).bind fun t119 => (if (t119.length : Int) = (x5_1.length : Int) then ((lcs_Match.f k1 x5_1 y101).bind fun t122 => (tripartitelaw03_LcsAlls.j1 k1 t114 ((t122.length : Int) != (x5_1.length : Int)))) else (tripartitelaw03_LcsAlls.j1 k1 t114 true))) else (tripartitelaw03_LcsAlls.j1 k1 t114 true))) else (tripartitelaw03_LcsAlls.j1 k1 t114 true)) = some r := by rw [if_pos rfl] at H; exact H
                clear H
                have H := H1
                clear H1
                by_cases c23 : (t114.length : Int) = (y101.length : Int)
                · rw [if_pos c23] at H
                  have c23b0 : ((t114.length : Int) == (y101.length : Int)) = true := beq_iff_eq.mpr c23
                  have c23b1 : ((t114.length : Int) != (y101.length : Int)) = false := bne_eq_false_iff_eq.mpr c23
                  have c23b2 : (t114.length == y101.length) = true := by first | simpa using c23 | (simp at c23 ⊢; omega)
                  clear c23
                  (first | rw [c23b0] | (simp only [i64_w, i32_w]; rw [c23b0]) | skip)
                  replace H := Option.bind_eq_some_iff.mp H
                  obtain ⟨t118, A240, H⟩ := H
                  replace H : (if t118 = 0 then ((lcs_Match.f k1 y101 x5_1).bind fun t119 => (if (t119.length : Int) = (x5_1.length : Int) then ((lcs_Match.f k1 x5_1 y101).bind fun t122 => (tripartitelaw03_LcsAlls.j1 k1 t114 ((t122.length : Int) != (x5_1.length : Int)))) else (tripartitelaw03_LcsAlls.j1 k1 t114 true))) else (tripartitelaw03_LcsAlls.j1 k1 t114 true)) = some r := H
                  have A24 := Aside0.mk A240
                  clear A240
                  by_cases c25 : t118 = 0
                  · rw [if_pos c25] at H
                    have c25b0 : (t118 == 0) = true := beq_iff_eq.mpr c25
                    have c25b1 : (t118 != 0) = false := bne_eq_false_iff_eq.mpr c25
                    clear c25
                    replace H := Option.bind_eq_some_iff.mp H
                    obtain ⟨t119, A260, H⟩ := H
                    replace H : (if (t119.length : Int) = (x5_1.length : Int) then ((lcs_Match.f k1 x5_1 y101).bind fun t122 => (tripartitelaw03_LcsAlls.j1 k1 t114 ((t122.length : Int) != (x5_1.length : Int)))) else (tripartitelaw03_LcsAlls.j1 k1 t114 true)) = some r := H
                    have A26 := Aside0.mk A260
                    clear A260
                    by_cases c27 : (t119.length : Int) = (x5_1.length : Int)
                    · rw [if_pos c27] at H
                      have c27b0 : ((t119.length : Int) == (x5_1.length : Int)) = true := beq_iff_eq.mpr c27
                      have c27b1 : ((t119.length : Int) != (x5_1.length : Int)) = false := bne_eq_false_iff_eq.mpr c27
                      have c27b2 : (t119.length == x5_1.length) = true := by first | simpa using c27 | (simp at c27 ⊢; omega)
                      clear c27
                      replace H := Option.bind_eq_some_iff.mp H
                      obtain ⟨t122, A280, H⟩ := H
                      replace H : (tripartitelaw03_LcsAlls.j1 k1 t114 ((t122.length : Int) != (x5_1.length : Int))) = some r := H
                      have A28 := Aside0.mk A280
                      clear A280
                      have H' := Aside0.mk H
                      clear H
                      go_wp2_with (first | ((with_reducible refine gate_callee (f := 28) rfl ?_); refine goesL_ (some 41) rfl rfl Try.func28 (by kernel_rfl) rfl #[] rfl (by (try simp only [List.map_toArray, List.map_cons, List.map_nil]); first | done | rfl | (simp only [List.length_drop, List.length_take]; rfl)) ?_; (with_reducible refine (tripartitelaw03_told.calls k1  true _ A21.out).mono ?_); rintro e w29 ⟨rfl, hb⟩; refine ⟨_, rfl, ?_⟩; have n0_ := Aside0.mk (Kd.R_below (by (with_reducible repeat (first | apply Kd.R_alloc | apply Kd.R_drewN | apply Kd.R_drew)); exact HO_5.out) hb); have n1_ := Aside0.mk (Kd.R_below (by (with_reducible repeat (first | apply Kd.R_alloc | apply Kd.R_drewN | apply Kd.R_drew)); exact HO116.out) hb); have n2_ := Aside0.mk (below_step (by repeat (first | (with_reducible first | exact HB.out | apply below_alloc | apply pw_below_drewN | apply below_drew1) | exact HB.out)) hb); clear HO_5; clear HO116; clear HB; have HO_5 := n0_; have HO116 := n1_; have HB := n2_; clear n0_ n1_ n2_; (try clear hb); (try clear hb2); (try clear hk); (try clear hi); obtain ⟨Ao30, co30, eo30⟩ := Kd.R_slice HO116.out; subst eo30) | (go_at_call 30; (with_reducible refine (lcs_Distance.calls k1 _ _ y101 _ _ y101 t118 _ ?side1 ?side2 ?side3 ?side4 A24.out).mono ?_); (case side1 => repeat (first | exact (Kd.C_below HR104.out HB.out) | (with_reducible refine Kd.C_alloc ?_ _) | (with_reducible refine Kd.C_drewN ?_ _) | (with_reducible refine Kd.C_drew ?_))); (case side2 => exact HC104.out); (case side3 => repeat (first | exact (Kd.C_below HR104.out HB.out) | (with_reducible refine Kd.C_alloc ?_ _) | (with_reducible refine Kd.C_drewN ?_ _) | (with_reducible refine Kd.C_drew ?_))); (case side4 => exact HC104.out); rintro e w31 ⟨rfl, hb⟩; have n0_ := Aside0.mk (Kd.R_below (by (with_reducible repeat (first | apply Kd.R_alloc | apply Kd.R_drewN | apply Kd.R_drew)); exact HO_5.out) hb); have n1_ := Aside0.mk (Kd.R_below (by (with_reducible repeat (first | apply Kd.R_alloc | apply Kd.R_drewN | apply Kd.R_drew)); exact HO116.out) hb); have n2_ := Aside0.mk (below_step (by repeat (first | (with_reducible first | exact HB.out | apply below_alloc | apply pw_below_drewN | apply below_drew1) | exact HB.out)) hb); clear HO_5; clear HO116; clear HB; have HO_5 := n0_; have HO116 := n1_; have HB := n2_; clear n0_ n1_ n2_; (try clear hb); (try clear hb2); (try clear hk); (try clear hi); obtain ⟨Ao32, co32, eo32⟩ := Kd.R_slice HO_5.out; subst eo32) | (go_at_call 27; (with_reducible refine (lcs_Match.calls k1 _ _ y101 _ _ x5_1 t119 _ ?side1 ?side2 ?side3 ?side4 A26.out).mono ?_); (case side1 => repeat (first | exact (Kd.C_below HR104.out HB.out) | (with_reducible refine Kd.C_alloc ?_ _) | (with_reducible refine Kd.C_drewN ?_ _) | (with_reducible refine Kd.C_drew ?_))); (case side2 => exact HC104.out); (case side3 => repeat (first | exact (Kd.R_reads' HO_5.out).2.2 | (with_reducible refine Kd.C_alloc ?_ _) | (with_reducible refine Kd.C_drewN ?_ _) | (with_reducible refine Kd.C_drew ?_))); (case side4 => exact (Kd.R_reads' HO_5.out).2.1); rintro e w33 ⟨v120, rfl, ho0, hb⟩; have n0_ := Aside0.mk (Kd.R_below (by (with_reducible repeat (first | apply Kd.R_alloc | apply Kd.R_drewN | apply Kd.R_drew)); exact HO_5.out) hb); have n1_ := Aside0.mk (Kd.R_elder' (by (with_reducible repeat (first | apply Kd.R_alloc | apply Kd.R_drewN | apply Kd.R_drew)); exact HO116.out) (Kd.R_base ho0) hb); have n2_ := Aside0.mk (Kd.R_lower (Kd.R_new' ho0 (Kd.R_lt (by (with_reducible repeat (first | apply Kd.R_alloc | apply Kd.R_drewN | apply Kd.R_drew)); exact HO116.out))) (below_size (by repeat (first | (with_reducible first | exact HB.out | apply below_alloc | apply pw_below_drewN | apply below_drew1) | exact HB.out)))); have n3_ := Aside0.mk (below_step (by repeat (first | (with_reducible first | exact HB.out | apply below_alloc | apply pw_below_drewN | apply below_drew1) | exact HB.out)) hb); clear HO_5; clear HO116; clear HB; have HO_5 := n0_; have HO116 := n1_; have HO121 := n2_; have HB := n3_; clear n0_ n1_ n2_ n3_; (try clear hb); (try clear hb2); (try clear hk); (try clear hi); (try clear ho0); obtain ⟨Ao34, co34, eo34⟩ := Kd.R_slice HO121.out; subst eo34) | (go_at_call 27; (with_reducible refine (lcs_Match.calls k1 _ _ x5_1 _ _ y101 t122 _ ?side1 ?side2 ?side3 ?side4 A28.out).mono ?_); (case side1 => repeat (first | exact (Kd.R_reads' HO_5.out).2.2 | (with_reducible refine Kd.C_alloc ?_ _) | (with_reducible refine Kd.C_drewN ?_ _) | (with_reducible refine Kd.C_drew ?_))); (case side2 => exact (Kd.R_reads' HO_5.out).2.1); (case side3 => repeat (first | exact (Kd.C_below HR104.out HB.out) | (with_reducible refine Kd.C_alloc ?_ _) | (with_reducible refine Kd.C_drewN ?_ _) | (with_reducible refine Kd.C_drew ?_))); (case side4 => exact HC104.out); rintro e w35 ⟨v123, rfl, ho0, hb⟩; have n0_ := Aside0.mk (Kd.R_below (by (with_reducible repeat (first | apply Kd.R_alloc | apply Kd.R_drewN | apply Kd.R_drew)); exact HO_5.out) hb); have n1_ := Aside0.mk (Kd.R_elder' (by (with_reducible repeat (first | apply Kd.R_alloc | apply Kd.R_drewN | apply Kd.R_drew)); exact HO116.out) (Kd.R_base ho0) hb); have n2_ := Aside0.mk (Kd.R_elder' (by (with_reducible repeat (first | apply Kd.R_alloc | apply Kd.R_drewN | apply Kd.R_drew)); exact HO121.out) (Kd.R_base ho0) hb); have n3_ := Aside0.mk (Kd.R_lower (Kd.R_new' (Kd.R_new' ho0 (Kd.R_lt (by (with_reducible repeat (first | apply Kd.R_alloc | apply Kd.R_drewN | apply Kd.R_drew)); exact HO116.out))) (Kd.R_lt (by (with_reducible repeat (first | apply Kd.R_alloc | apply Kd.R_drewN | apply Kd.R_drew)); exact HO121.out))) (below_size (by repeat (first | (with_reducible first | exact HB.out | apply below_alloc | apply pw_below_drewN | apply below_drew1) | exact HB.out)))); have n4_ := Aside0.mk (below_step (by repeat (first | (with_reducible first | exact HB.out | apply below_alloc | apply pw_below_drewN | apply below_drew1) | exact HB.out)) hb); clear HO_5; clear HO116; clear HO121; clear HB; have HO_5 := n0_; have HO116 := n1_; have HO121 := n2_; have HO124 := n3_; have HB := n4_; clear n0_ n1_ n2_ n3_ n4_; (try clear hb); (try clear hb2); (try clear hk); (try clear hi); (try clear ho0); obtain ⟨Ao36, co36, eo36⟩ := Kd.R_slice HO124.out; subst eo36))
                      go_meet
                      case rel => exact ⟨_, (((t122.length : Int) != (x5_1.length : Int))), (by first | rfl | (simp; done) | (simp [*]; done)), H', ⟨by have := HK1.out; first | omega | exact Nat.le_refl _⟩, ⟨by (with_reducible repeat (first | apply Kd.R_alloc | apply Kd.R_drewN | apply Kd.R_drew)); exact Kd.R_mono HO116.out (fun _ hk => trivial)⟩, ⟨by repeat (first | (with_reducible first | exact HB.out | apply below_alloc | apply pw_below_drewN | apply below_drew1) | exact HB.out)⟩⟩
                    · rw [if_neg c27] at H
                      have c27b0 : ((t119.length : Int) == (x5_1.length : Int)) = false := beq_eq_false_iff_ne.mpr c27
                      have c27b1 : ((t119.length : Int) != (x5_1.length : Int)) = true := bne_iff_ne.mpr c27
                      have c27b2 : (t119.length == x5_1.length) = false := by first | simpa using c27 | (simp at c27 ⊢; omega)
                      have H' := Aside0.mk H
                      clear H
                      go_wp2_with (first | ((with_reducible refine gate_callee (f := 28) rfl ?_); refine goesL_ (some 41) rfl rfl Try.func28 (by kernel_rfl) rfl #[] rfl (by (try simp only [List.map_toArray, List.map_cons, List.map_nil]); first | done | rfl | (simp only [List.length_drop, List.length_take]; rfl)) ?_; (with_reducible refine (tripartitelaw03_told.calls k1  true _ A21.out).mono ?_); rintro e w37 ⟨rfl, hb⟩; refine ⟨_, rfl, ?_⟩; have n0_ := Aside0.mk (Kd.R_below (by (with_reducible repeat (first | apply Kd.R_alloc | apply Kd.R_drewN | apply Kd.R_drew)); exact HO_5.out) hb); have n1_ := Aside0.mk (Kd.R_below (by (with_reducible repeat (first | apply Kd.R_alloc | apply Kd.R_drewN | apply Kd.R_drew)); exact HO116.out) hb); have n2_ := Aside0.mk (below_step (by repeat (first | (with_reducible first | exact HB.out | apply below_alloc | apply pw_below_drewN | apply below_drew1) | exact HB.out)) hb); clear HO_5; clear HO116; clear HB; have HO_5 := n0_; have HO116 := n1_; have HB := n2_; clear n0_ n1_ n2_; (try clear hb); (try clear hb2); (try clear hk); (try clear hi); obtain ⟨Ao38, co38, eo38⟩ := Kd.R_slice HO116.out; subst eo38) | (go_at_call 30; (with_reducible refine (lcs_Distance.calls k1 _ _ y101 _ _ y101 t118 _ ?side1 ?side2 ?side3 ?side4 A24.out).mono ?_); (case side1 => repeat (first | exact (Kd.C_below HR104.out HB.out) | (with_reducible refine Kd.C_alloc ?_ _) | (with_reducible refine Kd.C_drewN ?_ _) | (with_reducible refine Kd.C_drew ?_))); (case side2 => exact HC104.out); (case side3 => repeat (first | exact (Kd.C_below HR104.out HB.out) | (with_reducible refine Kd.C_alloc ?_ _) | (with_reducible refine Kd.C_drewN ?_ _) | (with_reducible refine Kd.C_drew ?_))); (case side4 => exact HC104.out); rintro e w39 ⟨rfl, hb⟩; have n0_ := Aside0.mk (Kd.R_below (by (with_reducible repeat (first | apply Kd.R_alloc | apply Kd.R_drewN | apply Kd.R_drew)); exact HO_5.out) hb); have n1_ := Aside0.mk (Kd.R_below (by (with_reducible repeat (first | apply Kd.R_alloc | apply Kd.R_drewN | apply Kd.R_drew)); exact HO116.out) hb); have n2_ := Aside0.mk (below_step (by repeat (first | (with_reducible first | exact HB.out | apply below_alloc | apply pw_below_drewN | apply below_drew1) | exact HB.out)) hb); clear HO_5; clear HO116; clear HB; have HO_5 := n0_; have HO116 := n1_; have HB := n2_; clear n0_ n1_ n2_; (try clear hb); (try clear hb2); (try clear hk); (try clear hi); obtain ⟨Ao40, co40, eo40⟩ := Kd.R_slice HO_5.out; subst eo40) | (go_at_call 27; (with_reducible refine (lcs_Match.calls k1 _ _ y101 _ _ x5_1 t119 _ ?side1 ?side2 ?side3 ?side4 A26.out).mono ?_); (case side1 => repeat (first | exact (Kd.C_below HR104.out HB.out) | (with_reducible refine Kd.C_alloc ?_ _) | (with_reducible refine Kd.C_drewN ?_ _) | (with_reducible refine Kd.C_drew ?_))); (case side2 => exact HC104.out); (case side3 => repeat (first | exact (Kd.R_reads' HO_5.out).2.2 | (with_reducible refine Kd.C_alloc ?_ _) | (with_reducible refine Kd.C_drewN ?_ _) | (with_reducible refine Kd.C_drew ?_))); (case side4 => exact (Kd.R_reads' HO_5.out).2.1); rintro e w41 ⟨v120, rfl, ho0, hb⟩; have n0_ := Aside0.mk (Kd.R_below (by (with_reducible repeat (first | apply Kd.R_alloc | apply Kd.R_drewN | apply Kd.R_drew)); exact HO_5.out) hb); have n1_ := Aside0.mk (Kd.R_elder' (by (with_reducible repeat (first | apply Kd.R_alloc | apply Kd.R_drewN | apply Kd.R_drew)); exact HO116.out) (Kd.R_base ho0) hb); have n2_ := Aside0.mk (Kd.R_lower (Kd.R_new' ho0 (Kd.R_lt (by (with_reducible repeat (first | apply Kd.R_alloc | apply Kd.R_drewN | apply Kd.R_drew)); exact HO116.out))) (below_size (by repeat (first | (with_reducible first | exact HB.out | apply below_alloc | apply pw_below_drewN | apply below_drew1) | exact HB.out)))); have n3_ := Aside0.mk (below_step (by repeat (first | (with_reducible first | exact HB.out | apply below_alloc | apply pw_below_drewN | apply below_drew1) | exact HB.out)) hb); clear HO_5; clear HO116; clear HB; have HO_5 := n0_; have HO116 := n1_; have HO121 := n2_; have HB := n3_; clear n0_ n1_ n2_ n3_; (try clear hb); (try clear hb2); (try clear hk); (try clear hi); (try clear ho0); obtain ⟨Ao42, co42, eo42⟩ := Kd.R_slice HO121.out; subst eo42))
                      go_meet
                      case rel => exact ⟨_, (true), (by first | rfl | (simp; done) | (simp [*]; done)), H', ⟨by have := HK1.out; first | omega | exact Nat.le_refl _⟩, ⟨by (with_reducible repeat (first | apply Kd.R_alloc | apply Kd.R_drewN | apply Kd.R_drew)); exact Kd.R_mono HO116.out (fun _ hk => trivial)⟩, ⟨by repeat (first | (with_reducible first | exact HB.out | apply below_alloc | apply pw_below_drewN | apply below_drew1) | exact HB.out)⟩⟩
                  · rw [if_neg c25] at H
                    have c25b0 : (t118 == 0) = false := beq_eq_false_iff_ne.mpr c25
                    have c25b1 : (t118 != 0) = true := bne_iff_ne.mpr c25
                    have H' := Aside0.mk H
                    clear H
                    go_wp2_with (first | ((with_reducible refine gate_callee (f := 28) rfl ?_); refine goesL_ (some 41) rfl rfl Try.func28 (by kernel_rfl) rfl #[] rfl (by (try simp only [List.map_toArray, List.map_cons, List.map_nil]); first | done | rfl | (simp only [List.length_drop, List.length_take]; rfl)) ?_; (with_reducible refine (tripartitelaw03_told.calls k1  true _ A21.out).mono ?_); rintro e w43 ⟨rfl, hb⟩; refine ⟨_, rfl, ?_⟩; have n0_ := Aside0.mk (Kd.R_below (by (with_reducible repeat (first | apply Kd.R_alloc | apply Kd.R_drewN | apply Kd.R_drew)); exact HO_5.out) hb); have n1_ := Aside0.mk (Kd.R_below (by (with_reducible repeat (first | apply Kd.R_alloc | apply Kd.R_drewN | apply Kd.R_drew)); exact HO116.out) hb); have n2_ := Aside0.mk (below_step (by repeat (first | (with_reducible first | exact HB.out | apply below_alloc | apply pw_below_drewN | apply below_drew1) | exact HB.out)) hb); clear HO_5; clear HO116; clear HB; have HO_5 := n0_; have HO116 := n1_; have HB := n2_; clear n0_ n1_ n2_; (try clear hb); (try clear hb2); (try clear hk); (try clear hi); obtain ⟨Ao44, co44, eo44⟩ := Kd.R_slice HO116.out; subst eo44) | (go_at_call 30; (with_reducible refine (lcs_Distance.calls k1 _ _ y101 _ _ y101 t118 _ ?side1 ?side2 ?side3 ?side4 A24.out).mono ?_); (case side1 => repeat (first | exact (Kd.C_below HR104.out HB.out) | (with_reducible refine Kd.C_alloc ?_ _) | (with_reducible refine Kd.C_drewN ?_ _) | (with_reducible refine Kd.C_drew ?_))); (case side2 => exact HC104.out); (case side3 => repeat (first | exact (Kd.C_below HR104.out HB.out) | (with_reducible refine Kd.C_alloc ?_ _) | (with_reducible refine Kd.C_drewN ?_ _) | (with_reducible refine Kd.C_drew ?_))); (case side4 => exact HC104.out); rintro e w45 ⟨rfl, hb⟩; have n0_ := Aside0.mk (Kd.R_below (by (with_reducible repeat (first | apply Kd.R_alloc | apply Kd.R_drewN | apply Kd.R_drew)); exact HO_5.out) hb); have n1_ := Aside0.mk (Kd.R_below (by (with_reducible repeat (first | apply Kd.R_alloc | apply Kd.R_drewN | apply Kd.R_drew)); exact HO116.out) hb); have n2_ := Aside0.mk (below_step (by repeat (first | (with_reducible first | exact HB.out | apply below_alloc | apply pw_below_drewN | apply below_drew1) | exact HB.out)) hb); clear HO_5; clear HO116; clear HB; have HO_5 := n0_; have HO116 := n1_; have HB := n2_; clear n0_ n1_ n2_; (try clear hb); (try clear hb2); (try clear hk); (try clear hi)))
                    go_meet
                    case rel => exact ⟨_, (true), (by first | rfl | (simp; done) | (simp [*]; done)), H', ⟨by have := HK1.out; first | omega | exact Nat.le_refl _⟩, ⟨by (with_reducible repeat (first | apply Kd.R_alloc | apply Kd.R_drewN | apply Kd.R_drew)); exact HO116.out⟩, ⟨by repeat (first | (with_reducible first | exact HB.out | apply below_alloc | apply pw_below_drewN | apply below_drew1) | exact HB.out)⟩⟩
                · rw [if_neg c23] at H
                  have c23b0 : ((t114.length : Int) == (y101.length : Int)) = false := beq_eq_false_iff_ne.mpr c23
                  have c23b1 : ((t114.length : Int) != (y101.length : Int)) = true := bne_iff_ne.mpr c23
                  have c23b2 : (t114.length == y101.length) = false := by first | simpa using c23 | (simp at c23 ⊢; omega)
                  (first | rw [c23b0] | (simp only [i64_w, i32_w]; rw [c23b0]) | skip)
                  have H' := Aside0.mk H
                  clear H
                  go_wp2_with (first | ((with_reducible refine gate_callee (f := 28) rfl ?_); refine goesL_ (some 41) rfl rfl Try.func28 (by kernel_rfl) rfl #[] rfl (by (try simp only [List.map_toArray, List.map_cons, List.map_nil]); first | done | rfl | (simp only [List.length_drop, List.length_take]; rfl)) ?_; (with_reducible refine (tripartitelaw03_told.calls k1  true _ A21.out).mono ?_); rintro e w46 ⟨rfl, hb⟩; refine ⟨_, rfl, ?_⟩; have n0_ := Aside0.mk (Kd.R_below (by (with_reducible repeat (first | apply Kd.R_alloc | apply Kd.R_drewN | apply Kd.R_drew)); exact HO_5.out) hb); have n1_ := Aside0.mk (Kd.R_below (by (with_reducible repeat (first | apply Kd.R_alloc | apply Kd.R_drewN | apply Kd.R_drew)); exact HO116.out) hb); have n2_ := Aside0.mk (below_step (by repeat (first | (with_reducible first | exact HB.out | apply below_alloc | apply pw_below_drewN | apply below_drew1) | exact HB.out)) hb); clear HO_5; clear HO116; clear HB; have HO_5 := n0_; have HO116 := n1_; have HB := n2_; clear n0_ n1_ n2_; (try clear hb); (try clear hb2); (try clear hk); (try clear hi); obtain ⟨Ao47, co47, eo47⟩ := Kd.R_slice HO116.out; subst eo47))
                  go_meet
                  case rel => exact ⟨_, (true), (by first | rfl | (simp; done) | (simp [*]; done)), H', ⟨by have := HK1.out; first | omega | exact Nat.le_refl _⟩, ⟨by (with_reducible repeat (first | apply Kd.R_alloc | apply Kd.R_drewN | apply Kd.R_drew)); exact HO116.out⟩, ⟨by repeat (first | (with_reducible first | exact HB.out | apply below_alloc | apply pw_below_drewN | apply below_drew1) | exact HB.out)⟩⟩
              · replace c22 := Bool.eq_false_iff.mpr c22
                subst c22
                have H1 : (tripartitelaw03_LcsAlls.j1 k1 t114 true) = some r := by rw [if_neg (show ¬ (false = true) by decide)] at H; exact H
                clear H
                have H := H1
                clear H1
                have H' := Aside0.mk H
                clear H
                go_wp2_with (first | ((with_reducible refine gate_callee (f := 28) rfl ?_); refine goesL_ (some 41) rfl rfl Try.func28 (by kernel_rfl) rfl #[] rfl (by (try simp only [List.map_toArray, List.map_cons, List.map_nil]); first | done | rfl | (simp only [List.length_drop, List.length_take]; rfl)) ?_; (with_reducible refine (tripartitelaw03_told.calls k1  false _ A21.out).mono ?_); rintro e w48 ⟨rfl, hb⟩; refine ⟨_, rfl, ?_⟩; have n0_ := Aside0.mk (Kd.R_below (by (with_reducible repeat (first | apply Kd.R_alloc | apply Kd.R_drewN | apply Kd.R_drew)); exact HO_5.out) hb); have n1_ := Aside0.mk (Kd.R_below (by (with_reducible repeat (first | apply Kd.R_alloc | apply Kd.R_drewN | apply Kd.R_drew)); exact HO116.out) hb); have n2_ := Aside0.mk (below_step (by repeat (first | (with_reducible first | exact HB.out | apply below_alloc | apply pw_below_drewN | apply below_drew1) | exact HB.out)) hb); clear HO_5; clear HO116; clear HB; have HO_5 := n0_; have HO116 := n1_; have HB := n2_; clear n0_ n1_ n2_; (try clear hb); (try clear hb2); (try clear hk); (try clear hi)))
                go_meet
                case rel => exact ⟨_, (true), (by first | rfl | (simp; done) | (simp [*]; done)), H', ⟨by have := HK1.out; first | omega | exact Nat.le_refl _⟩, ⟨by (with_reducible repeat (first | apply Kd.R_alloc | apply Kd.R_drewN | apply Kd.R_drew)); exact HO116.out⟩, ⟨by repeat (first | (with_reducible first | exact HB.out | apply below_alloc | apply pw_below_drewN | apply below_drew1) | exact HB.out)⟩⟩
            case rest =>
              clear HC19
              try clear c1
              try clear p1
              try clear q1
              try clear hx1
              try clear c2
              try clear p2
              try clear c4
              try clear c4b0
              try clear c4b1
              try clear c5
              try clear c5b0
              try clear c5b1
              try clear c6
              try clear p6
              try clear q6
              try clear c7
              try clear c7b0
              try clear c8
              try clear c8b0
              try clear c9
              try clear c9b0
              try clear c10
              try clear p10
              try clear q10
              try clear hx10
              try clear p11
              try clear q11
              try clear hx11
              try clear c12
              try clear c12b0
              try clear c13
              try clear c13b0
              try clear q14
              try clear c15
              try clear c16
              try clear c22
              try clear c23
              try clear c23b0
              try clear c23b1
              try clear c23b2
              try clear c25
              try clear c25b0
              try clear c25b1
              try clear c27
              try clear c27b0
              try clear c27b1
              try clear c27b2
              try clear c28
              try clear hx105_0
              try clear hx109_0
              try clear hx110_0
              try clear p105
              try clear p109
              try clear p110
              try clear p2
              try clear q105
              try clear q109
              try clear q110
              try clear q6
              obtain ⟨kq, x73_18, rfl, HA, HJ18, HO_7, HB⟩ := hcut
              cases kq with
              | zero => exact absurd HA.out (by simp [tripartitelaw03_LcsAlls.j1])
              | succ kj18 =>
                have H := HA.out
                clear HA
                simp only [tripartitelaw03_LcsAlls.j1] at H
                by_cases c49 : x73_18 = true
                · subst c49
                  have H1 : (some false) = some r := by rw [if_pos rfl] at H; exact H
                  clear H
                  have H := H1
                  clear H1
                  obtain rfl := Option.some.inj H
                  go_wp2
                  go_ret
                  exact ⟨by first | rfl | (simp [errW_none, errW_some] <;> rfl) | (simp only [← hji3]; first | rfl | (simp [errW_none, errW_some] <;> rfl)) | (simp [*, errW_none, errW_some] <;> rfl), by repeat (first | (with_reducible first | exact HB.out | apply below_alloc | apply pw_below_drewN | apply below_drew1) | exact HB.out)⟩
                · replace c49 := Bool.eq_false_iff.mpr c49
                  subst c49
                  have H1 : (tripartitelaw03_LcsAlls.l1 kj18 t114 0) = some r := by rw [if_neg (show ¬ (false = true) by decide)] at H; exact H
                  clear H
                  have H := H1
                  clear H1
                  have H' := Aside0.mk H
                  clear H
                  go_wp2
                  go_loopg [8] kj18 (fun kq v8 w' => ∃ (x8_3 : Int), v8 = .int .i64 x8_3 ∧ Aside0 (tripartitelaw03_LcsAlls.l1 kq t114 x8_3 = some r) ∧ Aside0 (kq ≤ kj18) ∧ Aside0 (Kd.R k39 39 w' w.heap.size (fun _ => True) v115 t114) ∧ Aside0 (Below w.heap.size w w'))
                  case atStart => exact ⟨(0), (by first | rfl | (simp; done) | (simp [*]; done)), H', ⟨Nat.le_refl _⟩, ⟨by (with_reducible repeat (first | apply Kd.R_alloc | apply Kd.R_drewN | apply Kd.R_drew)); exact HO_7.out⟩, ⟨by repeat (first | (with_reducible first | exact HB.out | apply below_alloc | apply pw_below_drewN | apply below_drew1) | exact HB.out)⟩⟩
                  case round =>
                    clear H'
                    try clear c1
                    try clear p1
                    try clear q1
                    try clear hx1
                    try clear c2
                    try clear p2
                    try clear c4
                    try clear c4b0
                    try clear c4b1
                    try clear c5
                    try clear c5b0
                    try clear c5b1
                    try clear c6
                    try clear p6
                    try clear q6
                    try clear c7
                    try clear c7b0
                    try clear c8
                    try clear c8b0
                    try clear c9
                    try clear c9b0
                    try clear c10
                    try clear p10
                    try clear q10
                    try clear hx10
                    try clear p11
                    try clear q11
                    try clear hx11
                    try clear c12
                    try clear c12b0
                    try clear c13
                    try clear c13b0
                    try clear q14
                    try clear c15
                    try clear c16
                    try clear c22
                    try clear c23
                    try clear c23b0
                    try clear c23b1
                    try clear c23b2
                    try clear c25
                    try clear c25b0
                    try clear c25b1
                    try clear c27
                    try clear c27b0
                    try clear c27b1
                    try clear c27b2
                    try clear c28
                    try clear c49
                    try clear hx105_0
                    try clear hx109_0
                    try clear hx110_0
                    try clear p1
                    try clear p10
                    try clear p105
                    try clear p109
                    try clear p11
                    try clear p110
                    try clear p2
                    try clear p6
                    try clear q1
                    try clear q10
                    try clear q105
                    try clear q109
                    try clear q11
                    try clear q110
                    try clear q14
                    try clear q6
                    obtain ⟨x8_3, rfl, HA, HK3, HO_7, HB⟩ := hrel
                    cases gk with
                    | zero => exact absurd HA.out (by simp [tripartitelaw03_LcsAlls.l1])
                    | succ k3 =>
                      have H := HA.out
                      clear HA
                      simp only [tripartitelaw03_LcsAlls.l1] at H
                      by_cases c50 : x8_3 < (t114.length : Int)
                      · rw [if_pos c50] at H
                        have c50b0 : decide (x8_3 < (t114.length : Int)) = true := decide_eq_true c50
                        clear c50
                        by_cases c51 : 0 ≤ x8_3
                        · rw [if_pos c51] at H
                          have c51b0 : decide (0 ≤ x8_3) = true := decide_eq_true c51
                          clear c51
                          by_cases c52 : ((rd_T39 t114 x8_3).f0) = x8_3
                          · rw [if_pos c52] at H
                            have c52b0 : (((rd_T39 t114 x8_3).f0) == x8_3) = true := beq_iff_eq.mpr c52
                            have c52b1 : (((rd_T39 t114 x8_3).f0) != x8_3) = false := bne_eq_false_iff_eq.mpr c52
                            clear c52
                            by_cases c53 : ((rd_T39 t114 x8_3).f1) = x8_3
                            · rw [if_pos c53] at H
                              have c53b0 : (((rd_T39 t114 x8_3).f1) == x8_3) = true := beq_iff_eq.mpr c53
                              have c53b1 : (((rd_T39 t114 x8_3).f1) != x8_3) = false := bne_eq_false_iff_eq.mpr c53
                              clear c53
                              have H' := Aside0.mk H
                              clear H
                              obtain ⟨Ao54, co54, eo54⟩ := Kd.R_slice HO_7.out
                              subst eo54
                              have p125 : 0 ≤ (x8_3 : Int) := of_decide_eq_true (by first | (with_reducible assumption) | assumption)
                              have q125 : x8_3 < (t114.length : Int) := of_decide_eq_true (by first | (with_reducible assumption) | assumption)
                              obtain ⟨ad125, e125, hx125_0, hx125_1⟩ := at_T39 (Kd.R_reads' HO_7.out).2.2 x8_3 p125 q125
                              cases e125
                              replace p125 := eq_true p125
                              replace q125 := eq_true q125
                              have p126 : 0 ≤ (x8_3 : Int) := of_decide_eq_true (by first | (with_reducible assumption) | assumption)
                              have q126 : x8_3 < (t114.length : Int) := of_decide_eq_true (by first | (with_reducible assumption) | assumption)
                              obtain ⟨ad126, e126, hx126_0, hx126_1⟩ := at_T39 (Kd.R_reads' HO_7.out).2.2 x8_3 p126 q126
                              obtain rfl : ad125 = ad126 := (by injection e126)
                              replace p126 := eq_true p126
                              replace q126 := eq_true q126
                              go_wp2
                              go_roundg k3
                              case measure => have := HK1.out; have := HJ18.out; have := HK3.out; omega
                              case rel => exact ⟨(wrap64 (x8_3 + 1)), (by first | rfl | (simp; done) | (simp [*]; done)), H', ⟨by have := HK1.out; have := HJ18.out; have := HK3.out; omega⟩, ⟨by (with_reducible repeat (first | apply Kd.R_alloc | apply Kd.R_drewN | apply Kd.R_drew)); exact HO_7.out⟩, ⟨by repeat (first | (with_reducible first | exact HB.out | apply below_alloc | apply pw_below_drewN | apply below_drew1) | exact HB.out)⟩⟩
                            · rw [if_neg c53] at H
                              have c53b0 : (((rd_T39 t114 x8_3).f1) == x8_3) = false := beq_eq_false_iff_ne.mpr c53
                              have c53b1 : (((rd_T39 t114 x8_3).f1) != x8_3) = true := bne_iff_ne.mpr c53
                              obtain rfl := Option.some.inj H
                              obtain ⟨Ao55, co55, eo55⟩ := Kd.R_slice HO_7.out
                              subst eo55
                              have p125 : 0 ≤ (x8_3 : Int) := of_decide_eq_true (by first | (with_reducible assumption) | assumption)
                              have q125 : x8_3 < (t114.length : Int) := of_decide_eq_true (by first | (with_reducible assumption) | assumption)
                              obtain ⟨ad125, e125, hx125_0, hx125_1⟩ := at_T39 (Kd.R_reads' HO_7.out).2.2 x8_3 p125 q125
                              cases e125
                              replace p125 := eq_true p125
                              replace q125 := eq_true q125
                              have p126 : 0 ≤ (x8_3 : Int) := of_decide_eq_true (by first | (with_reducible assumption) | assumption)
                              have q126 : x8_3 < (t114.length : Int) := of_decide_eq_true (by first | (with_reducible assumption) | assumption)
                              obtain ⟨ad126, e126, hx126_0, hx126_1⟩ := at_T39 (Kd.R_reads' HO_7.out).2.2 x8_3 p126 q126
                              obtain rfl : ad125 = ad126 := (by injection e126)
                              replace p126 := eq_true p126
                              replace q126 := eq_true q126
                              go_wp2
                              go_ret
                              exact ⟨by first | rfl | (simp [errW_none, errW_some] <;> rfl) | (simp only [← hji3]; first | rfl | (simp [errW_none, errW_some] <;> rfl)) | (simp [*, errW_none, errW_some] <;> rfl), by repeat (first | (with_reducible first | exact HB.out | apply below_alloc | apply pw_below_drewN | apply below_drew1) | exact HB.out)⟩
                          · rw [if_neg c52] at H
                            have c52b0 : (((rd_T39 t114 x8_3).f0) == x8_3) = false := beq_eq_false_iff_ne.mpr c52
                            have c52b1 : (((rd_T39 t114 x8_3).f0) != x8_3) = true := bne_iff_ne.mpr c52
                            obtain rfl := Option.some.inj H
                            obtain ⟨Ao56, co56, eo56⟩ := Kd.R_slice HO_7.out
                            subst eo56
                            have p125 : 0 ≤ (x8_3 : Int) := of_decide_eq_true (by first | (with_reducible assumption) | assumption)
                            have q125 : x8_3 < (t114.length : Int) := of_decide_eq_true (by first | (with_reducible assumption) | assumption)
                            obtain ⟨ad125, e125, hx125_0, hx125_1⟩ := at_T39 (Kd.R_reads' HO_7.out).2.2 x8_3 p125 q125
                            cases e125
                            replace p125 := eq_true p125
                            replace q125 := eq_true q125
                            go_wp2
                            go_ret
                            exact ⟨by first | rfl | (simp [errW_none, errW_some] <;> rfl) | (simp only [← hji3]; first | rfl | (simp [errW_none, errW_some] <;> rfl)) | (simp [*, errW_none, errW_some] <;> rfl), by repeat (first | (with_reducible first | exact HB.out | apply below_alloc | apply pw_below_drewN | apply below_drew1) | exact HB.out)⟩
                        · rw [if_neg c51] at H
                          exact absurd H (by simp)
                      · rw [if_neg c50] at H
                        have c50b0 : decide (x8_3 < (t114.length : Int)) = false := decide_eq_false c50
                        clear c50
                        obtain rfl := Option.some.inj H
                        obtain ⟨Ao57, co57, eo57⟩ := Kd.R_slice HO_7.out
                        subst eo57
                        go_wp2
                        go_ret
                        exact ⟨by first | rfl | (simp [errW_none, errW_some] <;> rfl) | (simp only [← hji3]; first | rfl | (simp [errW_none, errW_some] <;> rfl)) | (simp [*, errW_none, errW_some] <;> rfl), by repeat (first | (with_reducible first | exact HB.out | apply below_alloc | apply pw_below_drewN | apply below_drew1) | exact HB.out)⟩
    · rw [if_neg c5] at H
      exact absurd H (by simp)
  · rw [if_neg c4] at H
    exact absurd H (by simp)

end Go.Proofs.Ytadafplbgophfaa.PA
